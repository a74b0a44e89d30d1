/- Texts of VwCSm. -/
import Derived.Test.YtegaapiocihcpaaGreatDoorVZi8
import Derived.BigQuiet
set_option maxHeartbeats 8000000
namespace Go.Proofs.YtegaapiocihcpaaGreatDoor
open Go.RowKit
theorem lineS_to {sl:List Seal}{gs e v:Int}{ws:List Word}{x:LineP}{N:Nat}(hx:InL N x):Qa4 sl gs e v ws x=Qbg (Qax sl gs e v ws x.fr.toNat x.un.toNat):=by
 obtain⟨h0,h1,h2⟩:=hx;obtain⟨fr,un,ga,no⟩:=x;dsimp only at h0 h1 h2 ⊢;obtain⟨f,rfl⟩:=Int.eq_ofNat_of_zero_le h0;obtain⟨u,rfl⟩:=Int.eq_ofNat_of_zero_le (show 0≤un by omega);unfold Qa4;rw[lineW_to];rfl
theorem own_setB {w:World}{base:Nat}{e:TypeId}{v:Value}{l:List ByteArray}(h:Own w base e v l){b:Nat}(hb:b<base)(o:Nat)(u:Value):Own (w.setCell ⟨b,o,none⟩ u) base e v l:=by
 obtain⟨xs,hx,ho,hr⟩:=h;refine⟨xs,⟨hx.1,?_⟩,ho,fun i hi=>hr i hi⟩;rcases hx.2 with hn|⟨g,cap,cur,hv,hbg,hg,rest⟩
 ·exact .inl hn
 ·refine .inr ⟨g,cap,cur,hv,hbg,?_,rest⟩;rw[Qaa _ _ _ _ (by omega)];exact hg
structure LpI (V1 W0:World)(X8:Nat)(cs:List Value)(v:Value)(l:List ByteArray)(w:World):Prop where
 bl:Below V1.heap.size V1 w
 kp:∀i,i<W0.heap.size→i≠X8→w.heap[i]? =W0.heap[i]?
 x8:ABox w X8 46 cs
 ow:Own w W0.heap.size 9 v l
 sz:W0.heap.size≤w.heap.size
set_option maxRecDepth 100000 in
theorem sheet_any (num suf:Nat)(e v:Int)(Ap Aq:Option Addr)(cp cq:Nat)(bo no:List LineP)(Aa Ab:Option Addr)(ca cb:Nat)(a b:List (List Word))(A:Option Addr)(c n:Nat)(sl:List Seal)(w:World) (hbo:Sl w (fun b=>b<w.heap.size) Ap cp bo) (hno:Sl w (fun b=>b<w.heap.size) Aq cq no) (hbl:bo.length≤1048576) (hnl:no.length≤1048576) (hin:∀x∈bo++no,InL (tot (a++b)) x) (hla1:1≤num∧num≤16384) (hla2:suf≤16384) (ha:Sl w (fun b=>b<w.heap.size) Aa ca a) (hb:Sl w (fun b=>b<w.heap.size) Ab cb b) (hla:a.length≤100) (hlb:b.length≤100) (ht:tot (a++b)≤1048576) (hw1:∀y∈QaF ⟨a,b⟩,y.s.size≤1000) (hsl:Sl w (fun b=>b<w.heap.size) A c sl) (hn:sl.length=n) (hsz:n≤1048576) (hg:∀s∈sl,0≤s.g∧s.g<16) (hT:Tabs w):
 Calls Tryz.prog 19 #[.agg #[.int .i64 num,.int .i64 suf,.int .i64 e,.int .i64 v,.slice Ap bo.length cp,.slice Aq no.length cq],.agg #[.slice Aa a.length ca,.slice Ab b.length cb],.slice A n c] w fun r W'=>∃A1 c1 A2 c2,r=.returned (.agg #[.string (labT num suf),.slice A1 bo.length c1,.slice A2 no.length c2])∧Sl W' (Up w.heap.size) A1 c1 (bo.map (Qa4 sl 0 e v (QaF ⟨a,b⟩)))∧Sl W' (Up w.heap.size) A2 c2 (no.map (Qa4 sl 0 e v (QaF ⟨a,b⟩)))∧Below w.heap.size w W':=by
 obtain⟨wb,hwb⟩:∃wb,((w.alloc (.cells #[.int .i64 num,.int .i64 suf,.int .i64 e,.int .i64 v,.slice Ap bo.length cp,.slice Aq no.length cq] 43)).alloc (.cells #[.slice Aa a.length ca,.slice Ab b.length cb] 36)).alloc (.cells #[.string ⟨#[]⟩,.slice none 0 0,.slice none 0 0] 46)=wb:=⟨_,rfl⟩;have hba:Below w.heap.size w wb:=by rw[←hwb];exact((bR.alloc nL _).alloc (by simp) _).alloc (by simp;omega) _
 have hx0:ABox wb w.heap.size 43 [.int .i64 num,.int .i64 suf,.int .i64 e,.int .i64 v,.slice Ap bo.length cp,.slice Aq no.length cq]:=by rw[←hwb];exact(Below.heap_alloc _ _ _ (by first|(simp;done)|(simp;omega))).trans ((Below.heap_alloc _ _ _ (by simp)).trans (heap_alloc_new w _))
 have hx1:ABox wb (w.heap.size+1) 36 [.slice Aa a.length ca,.slice Ab b.length cb]:=by rw[←hwb];exact(Below.heap_alloc _ _ _ (by simp)).trans (Qak (by simp))
 have hx2:ABox wb (w.heap.size+1+1) 46 [.string ⟨#[]⟩,.slice none 0 0,.slice none 0 0]:=by rw[←hwb];exact Qak (by simp)
 have HM:=Lh (made_any num suf e v Ap Aq bo.length cp no.length cq Aa Ab ca cb a b A c n sl 0 wb (ha.to hba) (hb.to hba) hla hlb ht hw1 (hsl.to hba) hn hsz hg (hT.to hba))
 have HZMM:Hid (∀z,(∃f u,Qbg (Qax sl 0 e v (QaF ⟨a,b⟩) f u)=z∧u≤tot (a++b))→z.size≤maxLen):=Lh (fun z ⟨f,u,hz,hu⟩=>by
  have h1:=joinS_size (Qax sl 0 e v (QaF ⟨a,b⟩) f u) (QdK hw1 (by rw[Qdl];exact hu))
  rw[hz,QcX] at h1
  unfold maxLen
  omega)
 have HBO:=Lh (hbo.to hba);have HNO:=Lh (hno.to hba);have HT:=Lh (hT.to hba);have HIN:=Lh hin;have HBA:=Lh hba;have HX0:=Lh hx0;have HX1:=Lh hx1;have HX2:=Lh hx2;obtain⟨nb,hnb⟩:∃q,bo.length=q:=⟨_,rfl⟩;obtain⟨nn,hnn⟩:∃q,no.length=q:=⟨_,rfl⟩;have HNB:=Lh hnb;have HNN:=Lh hnn;have hbc:nb≤cp:=by rw[←hnb];exact hbo.1
 have hbc2:cp≤9223372036854775807:=hbo.2.1;have hnc:nn≤cq:=by rw[←hnn];exact hno.1
 have hnc2:cq≤9223372036854775807:=hno.2.1;rw[hnb,hnn] at hwb HM HX0;rw[hnb] at hbl;rw[hnn] at hnl;rw[hnb,hnn];clear ha hb hla hlb ht hw1 hsl hn hsz hg hT hba hx0 hx1 hx2 hbo hno hin hnb hnn;go_enter Tryz.func19,Tryz.ntmps19;go_upto_region 1 with(fail);(try rw[hwb]);clear hwb;have y0:=HX0.out.cell 0 rfl;have y1:=HX0.out.cell 1 rfl;have y2:=HX0.out.cell 2 rfl;have y3:=HX0.out.cell 3 rfl;have y4:=HX0.out.cell 4 rfl;have y5:=HX0.out.cell 5 rfl;have z0:=HX1.out.cell 0 rfl;have z1:=HX1.out.cell 1 rfl
 go_upto_region 2 with(first|(go_at_call 58;refine HM.out.mono ?_;rintro r V1 ⟨Aw,cw,c1,c2,c3,rfl,hs,hb1⟩;have HS:=Lh hs;have HB1:=Lh hb1;clear hs hb1 y0 y1 y2 y3 y4 y5 z0 z1)|fail)
 obtain⟨X7,hX7⟩:∃q,V1.heap.size=q:=⟨_,rfl⟩;obtain⟨V2,hV2⟩:∃q,V1.alloc (.cells #[.slice Aw (tot (a++b)) cw,.func (.func 113) #[] #[c1,c2,c3]] 113)=q:=⟨_,rfl⟩;have HB2:Hid (Below V1.heap.size V1 V2):=Lh (by rw[←hV2];exact bR.alloc nL _);have HX7:Hid (ABox V2 X7 113 [.slice Aw (tot (a++b)) cw,.func (.func 113) #[] #[c1,c2,c3]]):=Lh (by rw[←hV2,←hX7];exact heap_alloc_new V1 _);have H7:Hid (V1.heap.size≤X7):=Lh (by omega);rw[hV2,hX7];have hx0:ABox V2 w.heap.size 43 [.int .i64 num,.int .i64 suf,.int .i64 e,.int .i64 v,.slice Ap nb cp,.slice Aq nn cq]:=HX0.out.to (HB1.out.trans (HB2.out.mono HB1.out.size));have y0:=hx0.cell 0 rfl;have y1:=hx0.cell 1 rfl;have HLT:=Lh (ltext_any num suf hla1 hla2 V2 (HT.out.to (HB1.out.trans (HB2.out.mono HB1.out.size))));clear hV2 hX7 hx0
 go_upto_region 3 with(first|(go_at_call 59;refine HLT.out.mono ?_;rintro r V3 ⟨rfl,hb3⟩;have HB3:=Lh hb3;clear hb3 y0 y1)|fail)
 obtain⟨lab,hlab⟩:∃q,labT num suf=q:=⟨_,rfl⟩;have HLAB:=Lh hlab;rw[hlab];obtain⟨X8,hX8⟩:∃q,V3.heap.size=q:=⟨_,rfl⟩;obtain⟨W0,hW0⟩:∃q,V3.alloc (.cells #[.string lab,.slice none 0 0,.slice none 0 0] 46)=q:=⟨_,rfl⟩;have hb4:Below V3.heap.size V3 W0:=by rw[←hW0];exact bR.alloc nL _
 have hx8:ABox W0 X8 46 [.string lab,.slice none 0 0,.slice none 0 0]:=by rw[←hW0,←hX8];exact heap_alloc_new V3 _
 have hb0:Below V1.heap.size V1 W0:=HB2.out.trans ((HB3.out.trans (hb4.mono HB3.out.size)).mono HB2.out.size);have HX70:Hid (ABox W0 X7 113 [.slice Aw (tot (a++b)) cw,.func (.func 113) #[] #[c1,c2,c3]]):=Lh ((HX7.out.to HB3.out).to hb4);have H8:Hid (X7<X8∧X8<W0.heap.size∧V1.heap.size≤X7):=Lh ⟨by have h1:=HX7.out.lt;have h2:=HB3.out.size;omega,hx8.lt,H7.out⟩;have HI0:Hid (LpI V1 W0 X8 [.string lab,.slice none 0 0,.slice none 0 0] (.slice none 0 0) [] W0):=Lh ⟨hb0,fun _ _ _=>rfl,hx8,Own.nil _ _ _,Nat.le_refl _⟩;have HBW0:Hid (Below wb.heap.size wb W0):=Lh (HB1.out.trans (hb0.mono HB1.out.size));rw[hW0,hX8];have y4:W0.cell? ⟨w.heap.size,4,none⟩=some (.slice Ap nb cp):=(HX0.out.to HBW0.out).cell 4 rfl;have HZ0:Hid (W0.heap.size≤W0.heap.size):=Lh nL;have HX7W:=HX70;have HZM:Hid (∀z,(∃f u,Qbg (Qax sl 0 e v (QaF ⟨a,b⟩) f u)=z∧u≤tot (a++b))→z.size≤maxLen):=HZMM;clear hlab hX8 hW0 hb4 hx8 hb0;go_wp2_with fail;go_loopw [24] (fun v24 wr=>∃(k:Nat) (v5:Value),v24=.int .i64 (k:Int)∧k≤nb∧Hid (LpI V1 W0 X8 [.string lab,v5,.slice none 0 0] v5 ((bo.take k).map (Qa4 sl 0 e v (QaF ⟨a,b⟩))) wr)) (fun v24 _=>nb-(intOf v24).toNat);(case atStart=>exact⟨0,_,rfl,Nat.zero_le _,HI0⟩);case round=>
  obtain⟨k,v5,rfl,hk,HL⟩:=hrel;by_cases hlt:k<nb
  ·have hkl:k<bo.length:=by rw[HNB.out];exact hlt
   have HBw:Hid (Below wb.heap.size wb wr):=Lh (HB1.out.trans (HL.out.bl.mono HB1.out.size));obtain⟨bl,ol,Ag,cg,An,cn,hAp,-,hbl0,e0,e1,e2,e3,-,-⟩:=Qbz HBO.out hkl;subst hAp;have hIn:=HIN.out bo[k] (by simp[List.getElem_mem]);have HLS:=Lh (lineS_to (sl:=sl) (gs:=0) (e:=e) (v:=v) (ws:=QaF ⟨a,b⟩) hIn);have HTK:=Lh (qT hkl);obtain⟨x,hx⟩:∃x,bo[k]=x:=⟨_,rfl⟩;rw[hx] at e0 e1 e2 e3 hIn HLS HTK;obtain⟨h0,h1,h2⟩:=hIn;obtain⟨fr,un,ga,no2⟩:=x;dsimp only at h0 h1 h2 e0 e1 e2 e3;obtain⟨f,rfl⟩:=Int.eq_ofNat_of_zero_le h0;obtain⟨u,rfl⟩:=Int.eq_ofNat_of_zero_le (show 0≤un by omega);obtain⟨z,hz⟩:∃z,Qbg (Qax sl 0 e v (QaF ⟨a,b⟩) f u)=z:=⟨_,rfl⟩;have HZ:=Lh hz;have HFU:Hid (f<u∧u≤tot (a++b)):=Lh (by omega);have HLS2:Hid (Qa4 sl 0 e v (QaF ⟨a,b⟩) ⟨(f:Int),(u:Int),ga,no2⟩=z):=Lh (by rw[HLS.out,←hz];rfl);have q0:=(HBw.out.cell (p:=⟨bl,ol+k*4,none⟩) hbl0).trans e0;have q1:=(HBw.out.cell (p:=⟨bl,ol+k*4+1,none⟩) hbl0).trans e1;have q2:=(HBw.out.cell (p:=⟨bl,ol+k*4+2,none⟩) hbl0).trans e2;have q3:=(HBw.out.cell (p:=⟨bl,ol+k*4+3,none⟩) hbl0).trans e3;have hkI:(k:Int)<(nb:Int):=(by omega);obtain⟨L,hL⟩:∃L,(bo.take k).map (Qa4 sl 0 e v (QaF ⟨a,b⟩))=L:=⟨_,rfl⟩;have HLL:=Lh hL;have HLN:Hid (L.length≤1048576):=Lh (by rw[←hL,qM,qK];omega);rw[hL] at HL;obtain⟨A5,c5,hv5,-⟩:=HL.out.ow.form;subst hv5;clear hz hx h0 h1 h2 e0 e1 e2 e3 HLS hL;go_upto_region 6 with(fail);obtain⟨Xl,hXl⟩:∃q,wr.heap.size=q:=⟨_,rfl⟩;obtain⟨w2,hw2⟩:∃q,wr.alloc (.cells #[.int .i64 f,.int .i64 u,.slice Ag ga.length cg,.slice An no2.length cn] 56)=q:=⟨_,rfl⟩;have hb2:Below wr.heap.size wr w2:=(by rw[←hw2];exact bR.alloc nL _);have HXl:Hid (ABox w2 Xl 56 [.int .i64 f,.int .i64 u,.slice Ag ga.length cg,.slice An no2.length cn]):=Lh (by rw[←hw2,←hXl];exact heap_alloc_new wr _);have HX82:=Lh (HL.out.x8.to hb2);have HX72:Hid (ABox w2 X7 113 [.slice Aw (tot (a++b)) cw,.func (.func 113) #[] #[c1,c2,c3]]):=Lh (((hb2.block X7 (by have:=H8.out;have:=HL.out.sz;have:=HZ0.out;omega)).trans (HL.out.kp X7 (by have:=H8.out;have:=HZ0.out;omega) (by have:=H8.out;omega))).trans HX7W.out);have HBV2:Hid (Below V1.heap.size V1 w2):=Lh (HL.out.bl.trans (hb2.mono HL.out.bl.size));have HO2:=Lh (HL.out.ow.below hb2);have HSZ2:Hid (W0.heap.size≤wr.heap.size∧wr.heap.size≤w2.heap.size):=Lh ⟨HL.out.sz,hb2.size⟩;have HKP2:Hid (∀i,i<W0.heap.size→i≠X8→w2.heap[i]? =W0.heap[i]?):=Lh (fun i hi h8=>(hb2.block i (by have:=HL.out.sz;omega)).trans (HL.out.kp i hi h8));rw[hw2,hXl];clear hXl hw2 hb2 q0 q1 q2 q3;refine Qaf [4,5] (fun i=>if i=4 then SP.val (.string z) else if i=5 then SP.own w2.heap.size 9 [z] else SP.any) 6 (by kernel_rfl) (by kernel_rfl) ?_;intro T _ g hg hgm;have s0:∀d,(g d).cell? ⟨X8,1,none⟩=some (.slice A5 L.length c5):=fun d=>(HX82.out.to (hg d)).cell 1 rfl
   have m0:∀d,(g d).cell? ⟨X7,0,none⟩=some (.slice Aw (tot (a++b)) cw):=fun d=>(HX72.out.to (hg d)).cell 0 rfl
   have m1:∀d,(g d).cell? ⟨X7,1,none⟩=some (.func (.func 113) #[] #[c1,c2,c3]):=fun d=>(HX72.out.to (hg d)).cell 1 rfl
   have l0:∀d,(g d).cell? ⟨Xl,0,none⟩=some (.int .i64 f):=fun d=>(HXl.out.to (hg d)).cell 0 rfl
   have l1:∀d,(g d).cell? ⟨Xl,1,none⟩=some (.int .i64 u):=fun d=>(HXl.out.to (hg d)).cell 1 rfl
   have l2:∀d,(g d).cell? ⟨Xl,2,none⟩=some (.slice Ag ga.length cg):=fun d=>(HXl.out.to (hg d)).cell 2 rfl
   have l3:∀d,(g d).cell? ⟨Xl,3,none⟩=some (.slice An no2.length cn):=fun d=>(HXl.out.to (hg d)).cell 3 rfl
   (repeat(refine Qac (by rfl) fun Kq hq=>?_;go_big_quiet_step (fail);refine wpQuiet_nil (hq _ ?_);clear hq Kq));refine Qah (by rfl) (by rfl) (fun d hG K Q hK=>?_) (fun v9 d hG hp Kr hr=>?_)
   ·go_simp;go_at_call 60;refine(HS.out (g d) (HBV2.out.trans ((hg d).mono HBV2.out.size)) f u Ag An ga.length cg no2.length cn HFU.out.1 HFU.out.2).mono ?_;rintro r w3 ⟨rfl,hb3⟩;go_simp;exact hK _ _ hb3 (by show Value.string _=Value.string _;rw[HZ.out])
   have hp:v9=.string z:=hp;subst hp;(try clear hp);clear hG;go_frame;refine hr _ ?_;clear hr Kr;(repeat(refine Qac (by rfl) fun Kq hq=>?_;go_big_quiet_step (fail);refine wpQuiet_nil (hq _ ?_);clear hq Kq));refine Qah (by rfl) (by rfl) (fun d hG K Q hK=>?_) (fun v9 d hG hp Kr hr=>?_)
   ·go_simp;refine hK _ _ (bR.alloc nL _) (show Own _ _ _ _ _ from ?_);refine Own.lit (α:=ByteArray) (g d) w2.heap.size 9 #[.string z] [z] (hg d).size (by simp[maxLen]) rfl (by intro u hu;simp at hu;rcases hu with rfl;rfl) (fun i hi=>?_);obtain rfl:i=0:=by simp at hi;exact hi
    exact⟨rfl,HZM.out z (by rw[←HZ.out];exact⟨f,u,rfl,HFU.out.2⟩)⟩
   obtain⟨A9,c9,rfl,-⟩:=(show Own (g d) w2.heap.size 9 v9 [z] from hp).form;(try clear hp);clear hG;go_frame;refine hr _ ?_;clear hr Kr;(repeat(refine Qac (by rfl) fun Kq hq=>?_;go_big_quiet_step (fail);refine wpQuiet_nil (hq _ ?_);clear hq Kq));refine QaP 3 (by rfl) (by rfl) (fun d hG=>?_);have H9:Hid (Own (g d) w2.heap.size 9 (.slice A9 1 c9) [z]):=Lh (hG 5);have HOd:=Lh (HO2.out.below (hg d));have HBd:=Lh (HBV2.out.trans ((hg d).mono HBV2.out.size));have HX8d:=Lh (HX82.out.to (hg d));have HSZd:Hid (W0.heap.size≤w2.heap.size∧w2.heap.size≤(g d).heap.size):=Lh ⟨by have:=HSZ2.out;omega,(hg d).size⟩;have HKPd:Hid (∀i,i<W0.heap.size→i≠X8→(g d).heap[i]? =W0.heap[i]?):=Lh (fun i hi h8=>((hg d).block i (by have:=HSZ2.out;omega)).trans (HKP2.out i hi h8));have HLT:=Lh HO2.out.lt;clear hG hg hgm s0 m0 m1 l0 l1 l2 l3;generalize g d=wx at*;clear g
   have HS9:Hid (Sl wx (fun b=>w2.heap.size≤b) A9 c9 [z]):=Lh (by
    obtain⟨A,c,e,hs⟩:=QdJ H9.out
    cases e
    exact hs)
   refine Qao (i:=6) (oi:=_) rfl (by kernel_rfl) (by rfl) (fun K hK=>?_);refine wp_cat (α:=ByteArray) _ (.tmp 29) (.tmp 33) 44 rfl W0.heap.size 9 (.string ⟨#[]⟩) 16 Tryz.underlying44 Qdr rfl (show 0<1 by decide) _ L rfl HOd.out A9 c9 1 [z] rfl rfl (fun b=>w2.heap.size≤b) HS9.out (fun i (hi:w2.heap.size≤i) _ e=>by have:=(HLT.out i e.symm).2;omega) (by have:=HLN.out;omega) (by have:=HLN.out;omega) (by have:=HSZd.out;omega) ?_;intro v' w' ho' hg' hv';obtain⟨A6,c6,hv6,-⟩:=ho'.form;rw[show(L++[z]).length=L.length+1 by simp] at hv6;subst hv6;have HON:Hid (Own w' W0.heap.size 9 (.slice A6 (L.length+1) c6) ((bo.take (k+1)).map (Qa4 sl 0 e v (QaF ⟨a,b⟩)))):=Lh (by rw[HTK.out,List.map_append,HLL.out,List.map_cons,List.map_nil,HLS2.out];exact ho');have hrow:∀r,(Value.slice A5 L.length c5).ownBlock=some r→W0.heap.size≤r:=fun r hr=>(HLT.out r hr).1
   have HBN:Hid (Below V1.heap.size V1 w'):=Lh (HBd.out.grown hg' HBd.out.size (fun r hr=>by have:=hrow r hr;have:=H8.out;have:=HZ0.out;omega));have hbk:∀i,i<W0.heap.size→w'.heap[i]? =wx.heap[i]? :=fun i hi=>hg'.block i (by have:=HSZd.out;omega) (fun e=>by have:=hrow i e.symm;omega)
   have HX8N:Hid (ABox w' X8 46 [.string lab,.slice A5 L.length c5,.slice none 0 0]):=Lh ((hbk X8 (by have:=H8.out;have:=HZ0.out;omega)).trans HX8d.out);have HKPN:Hid (∀i,i<W0.heap.size→i≠X8→w'.heap[i]? =W0.heap[i]?):=Lh (fun i hi h8=>(hbk i hi).trans (HKPd.out i hi h8));have HSZN:Hid (W0.heap.size≤w'.heap.size):=Lh (by have h3:=hg'.size;have:=HSZd.out;omega);refine hK _ _ ?_;clear hK K ho' hg' hv' HOd HS9 H9 hrow hbk;(try simp only[Act.put,sA0]);refine Qao (i:=7) (oi:=_) rfl (by kernel_rfl) (by rfl) (fun K hK=>?_);go_simp;refine hK _ _ ?_;clear hK K;(try go_frame);have r1:=HX8N.out.cell 1 rfl;have f1:=HX8N.out.fz 1;refine Qao (i:=8) (oi:=_) rfl (by kernel_rfl) (by rfl) (fun K hK=>?_);go_simp;refine hK _ _ ?_;clear hK K r1 f1;(try go_frame);refine wpAny_done (by kernel_rfl) ?_ _;unfold Exit.then;have HLN2:Hid (LpI V1 W0 X8 [.string lab,.slice A6 (L.length+1) c6,.slice none 0 0] (.slice A6 (L.length+1) c6) ((bo.take (k+1)).map (Qa4 sl 0 e v (QaF ⟨a,b⟩))) (w'.setCell ⟨X8,1,none⟩ (.slice A6 (L.length+1) c6))):=Lh ⟨HBN.out.setCell (p:=⟨X8,1,none⟩) (by have:=H8.out;show V1.heap.size≤X8;omega) _,fun i hi h8=>by rw[Qaa _ _ _ _ h8];exact HKPN.out i hi h8,HX8N.out.set 1 (.slice A6 (L.length+1) c6),own_setB HON.out (by have:=H8.out;have:=HZ0.out;omega) _ _,by have:=HSZN.out;simpa using this⟩;go_wp2_with fail;go_roundw;(case rel=>exact⟨k+1,_,by go_num,by omega,HLN2⟩);case measure=>(first|(simp[intOf];done)|(simp[intOf];omega))
  ·obtain rfl:k=nb:=by omega
   have hkI:¬(k:Int)<(k:Int):=(by omega);have ek:bo.take k=bo:=List.take_of_length_le (by rw[HNB.out];exact Nat.le_refl _);rw[ek] at HL;obtain⟨A1,c1x,hv5,hs1⟩:=QdJ HL.out.ow;rw[qM,HNB.out] at hv5;subst hv5;have HS1:=Lh hs1;obtain⟨W1,hW1⟩:∃q:World,q=wr:=⟨_,rfl⟩;subst hW1;have HZ0:Hid (W0.heap.size≤W1.heap.size):=Lh HL.out.sz;have HX7W:Hid (ABox W1 X7 113 [.slice Aw (tot (a++b)) cw,.func (.func 113) #[] #[c1,c2,c3]]):=Lh ((HL.out.kp X7 (by have:=H8.out;omega) (by have:=H8.out;omega)).trans HX70.out);have HI1:Hid (LpI V1 W1 X8 [.string lab,.slice A1 k c1x,.slice none 0 0] (.slice none 0 0) [] W1):=Lh ⟨HL.out.bl,fun _ _ _=>rfl,HL.out.x8,Own.nil _ _ _,Nat.le_refl _⟩;have HBW1:Hid (Below wb.heap.size wb W1):=Lh (HB1.out.trans (HL.out.bl.mono HB1.out.size));have y5:W1.cell? ⟨w.heap.size,5,none⟩=some (.slice Aq nn cq):=(HX0.out.to HBW1.out).cell 5 rfl;clear hs1 ek HL y4;go_wp2_with fail;go_loopw [40] (fun v40 wr=>∃(j:Nat) (v6:Value),v40=.int .i64 (j:Int)∧j≤nn∧Hid (LpI V1 W1 X8 [.string lab,.slice A1 k c1x,v6] v6 ((no.take j).map (Qa4 sl 0 e v (QaF ⟨a,b⟩))) wr)) (fun v40 _=>nn-(intOf v40).toNat);(case atStart=>exact⟨0,_,rfl,Nat.zero_le _,HI1⟩);case round=>
    clear HI1 y5;obtain⟨j,v6,rfl,hk2,HL⟩:=hrel;by_cases hlt:j<nn
    ·have hkl:j<no.length:=by rw[HNN.out];exact hlt
     have HBw:Hid (Below wb.heap.size wb wr):=Lh (HB1.out.trans (HL.out.bl.mono HB1.out.size));obtain⟨bl,ol,Ag,cg,An,cn,hAp,-,hbl0,e0,e1,e2,e3,-,-⟩:=Qbz HNO.out hkl;subst hAp;have hIn:=HIN.out no[j] (by simp[List.getElem_mem]);have HLS:=Lh (lineS_to (sl:=sl) (gs:=0) (e:=e) (v:=v) (ws:=QaF ⟨a,b⟩) hIn);have HTK:=Lh (qT hkl);obtain⟨x,hx⟩:∃x,no[j]=x:=⟨_,rfl⟩;rw[hx] at e0 e1 e2 e3 hIn HLS HTK;obtain⟨h0,h1,h2⟩:=hIn;obtain⟨fr,un,ga,no2⟩:=x;dsimp only at h0 h1 h2 e0 e1 e2 e3;obtain⟨f,rfl⟩:=Int.eq_ofNat_of_zero_le h0;obtain⟨u,rfl⟩:=Int.eq_ofNat_of_zero_le (show 0≤un by omega);obtain⟨z,hz⟩:∃z,Qbg (Qax sl 0 e v (QaF ⟨a,b⟩) f u)=z:=⟨_,rfl⟩;have HZ:=Lh hz;have HFU:Hid (f<u∧u≤tot (a++b)):=Lh (by omega);have HLS2:Hid (Qa4 sl 0 e v (QaF ⟨a,b⟩) ⟨(f:Int),(u:Int),ga,no2⟩=z):=Lh (by rw[HLS.out,←hz];rfl);have q0:=(HBw.out.cell (p:=⟨bl,ol+j*4,none⟩) hbl0).trans e0;have q1:=(HBw.out.cell (p:=⟨bl,ol+j*4+1,none⟩) hbl0).trans e1;have q2:=(HBw.out.cell (p:=⟨bl,ol+j*4+2,none⟩) hbl0).trans e2;have q3:=(HBw.out.cell (p:=⟨bl,ol+j*4+3,none⟩) hbl0).trans e3;have hkI:(j:Int)<(nn:Int):=(by omega);obtain⟨L,hL⟩:∃L,(no.take j).map (Qa4 sl 0 e v (QaF ⟨a,b⟩))=L:=⟨_,rfl⟩;have HLL:=Lh hL;have HLN:Hid (L.length≤1048576):=Lh (by rw[←hL,qM,qK];omega);rw[hL] at HL;obtain⟨A5,c5,hv5,-⟩:=HL.out.ow.form;subst hv5;clear hz hx h0 h1 h2 e0 e1 e2 e3 HLS hL;go_upto_region 11 with(fail);obtain⟨Xl,hXl⟩:∃q,wr.heap.size=q:=⟨_,rfl⟩;obtain⟨w2,hw2⟩:∃q,wr.alloc (.cells #[.int .i64 f,.int .i64 u,.slice Ag ga.length cg,.slice An no2.length cn] 56)=q:=⟨_,rfl⟩;have hb2:Below wr.heap.size wr w2:=(by rw[←hw2];exact bR.alloc nL _);have HXl:Hid (ABox w2 Xl 56 [.int .i64 f,.int .i64 u,.slice Ag ga.length cg,.slice An no2.length cn]):=Lh (by rw[←hw2,←hXl];exact heap_alloc_new wr _);have HX82:=Lh (HL.out.x8.to hb2);have HX72:Hid (ABox w2 X7 113 [.slice Aw (tot (a++b)) cw,.func (.func 113) #[] #[c1,c2,c3]]):=Lh (((hb2.block X7 (by have:=H8.out;have:=HL.out.sz;have:=HZ0.out;omega)).trans (HL.out.kp X7 (by have:=H8.out;have:=HZ0.out;omega) (by have:=H8.out;omega))).trans HX7W.out);have HBV2:Hid (Below V1.heap.size V1 w2):=Lh (HL.out.bl.trans (hb2.mono HL.out.bl.size));have HO2:=Lh (HL.out.ow.below hb2);have HSZ2:Hid (W1.heap.size≤wr.heap.size∧wr.heap.size≤w2.heap.size):=Lh ⟨HL.out.sz,hb2.size⟩;have HKP2:Hid (∀i,i<W1.heap.size→i≠X8→w2.heap[i]? =W1.heap[i]?):=Lh (fun i hi h8=>(hb2.block i (by have:=HL.out.sz;omega)).trans (HL.out.kp i hi h8));rw[hw2,hXl];clear hXl hw2 hb2 q0 q1 q2 q3;refine Qaf [4,5] (fun i=>if i=4 then SP.val (.string z) else if i=5 then SP.own w2.heap.size 9 [z] else SP.any) 6 (by kernel_rfl) (by kernel_rfl) ?_;intro T _ g hg hgm;have s0:∀d,(g d).cell? ⟨X8,2,none⟩=some (.slice A5 L.length c5):=fun d=>(HX82.out.to (hg d)).cell 2 rfl
     have m0:∀d,(g d).cell? ⟨X7,0,none⟩=some (.slice Aw (tot (a++b)) cw):=fun d=>(HX72.out.to (hg d)).cell 0 rfl
     have m1:∀d,(g d).cell? ⟨X7,1,none⟩=some (.func (.func 113) #[] #[c1,c2,c3]):=fun d=>(HX72.out.to (hg d)).cell 1 rfl
     have l0:∀d,(g d).cell? ⟨Xl,0,none⟩=some (.int .i64 f):=fun d=>(HXl.out.to (hg d)).cell 0 rfl
     have l1:∀d,(g d).cell? ⟨Xl,1,none⟩=some (.int .i64 u):=fun d=>(HXl.out.to (hg d)).cell 1 rfl
     have l2:∀d,(g d).cell? ⟨Xl,2,none⟩=some (.slice Ag ga.length cg):=fun d=>(HXl.out.to (hg d)).cell 2 rfl
     have l3:∀d,(g d).cell? ⟨Xl,3,none⟩=some (.slice An no2.length cn):=fun d=>(HXl.out.to (hg d)).cell 3 rfl
     (repeat(refine Qac (by rfl) fun Kq hq=>?_;go_big_quiet_step (fail);refine wpQuiet_nil (hq _ ?_);clear hq Kq));refine Qah (by rfl) (by rfl) (fun d hG K Q hK=>?_) (fun v9 d hG hp Kr hr=>?_)
     ·go_simp;go_at_call 60;refine(HS.out (g d) (HBV2.out.trans ((hg d).mono HBV2.out.size)) f u Ag An ga.length cg no2.length cn HFU.out.1 HFU.out.2).mono ?_;rintro r w3 ⟨rfl,hb3⟩;go_simp;exact hK _ _ hb3 (by show Value.string _=Value.string _;rw[HZ.out])
     have hp:v9=.string z:=hp;subst hp;(try clear hp);clear hG;go_frame;refine hr _ ?_;clear hr Kr;(repeat(refine Qac (by rfl) fun Kq hq=>?_;go_big_quiet_step (fail);refine wpQuiet_nil (hq _ ?_);clear hq Kq));refine Qah (by rfl) (by rfl) (fun d hG K Q hK=>?_) (fun v9 d hG hp Kr hr=>?_)
     ·go_simp;refine hK _ _ (bR.alloc nL _) (show Own _ _ _ _ _ from ?_);refine Own.lit (α:=ByteArray) (g d) w2.heap.size 9 #[.string z] [z] (hg d).size (by simp[maxLen]) rfl (by intro u hu;simp at hu;rcases hu with rfl;rfl) (fun i hi=>?_);obtain rfl:i=0:=by simp at hi;exact hi
      exact⟨rfl,HZM.out z (by rw[←HZ.out];exact⟨f,u,rfl,HFU.out.2⟩)⟩
     obtain⟨A9,c9,rfl,-⟩:=(show Own (g d) w2.heap.size 9 v9 [z] from hp).form;(try clear hp);clear hG;go_frame;refine hr _ ?_;clear hr Kr;(repeat(refine Qac (by rfl) fun Kq hq=>?_;go_big_quiet_step (fail);refine wpQuiet_nil (hq _ ?_);clear hq Kq));refine QaP 3 (by rfl) (by rfl) (fun d hG=>?_);have H9:Hid (Own (g d) w2.heap.size 9 (.slice A9 1 c9) [z]):=Lh (hG 5);have HOd:=Lh (HO2.out.below (hg d));have HBd:=Lh (HBV2.out.trans ((hg d).mono HBV2.out.size));have HX8d:=Lh (HX82.out.to (hg d));have HSZd:Hid (W1.heap.size≤w2.heap.size∧w2.heap.size≤(g d).heap.size):=Lh ⟨by have:=HSZ2.out;omega,(hg d).size⟩;have HKPd:Hid (∀i,i<W1.heap.size→i≠X8→(g d).heap[i]? =W1.heap[i]?):=Lh (fun i hi h8=>((hg d).block i (by have:=HSZ2.out;omega)).trans (HKP2.out i hi h8));have HLT:=Lh HO2.out.lt;clear hG hg hgm s0 m0 m1 l0 l1 l2 l3;generalize g d=wx at*;clear g
     have HS9:Hid (Sl wx (fun b=>w2.heap.size≤b) A9 c9 [z]):=Lh (by
      obtain⟨A,c,e,hs⟩:=QdJ H9.out
      cases e
      exact hs)
     refine Qao (i:=6) (oi:=_) rfl (by kernel_rfl) (by rfl) (fun K hK=>?_);refine wp_cat (α:=ByteArray) _ (.tmp 45) (.tmp 49) 44 rfl W1.heap.size 9 (.string ⟨#[]⟩) 16 Tryz.underlying44 Qdr rfl (show 0<1 by decide) _ L rfl HOd.out A9 c9 1 [z] rfl rfl (fun b=>w2.heap.size≤b) HS9.out (fun i (hi:w2.heap.size≤i) _ e=>by have:=(HLT.out i e.symm).2;omega) (by have:=HLN.out;omega) (by have:=HLN.out;omega) (by have:=HSZd.out;omega) ?_;intro v' w' ho' hg' hv';obtain⟨A6,c6,hv6,-⟩:=ho'.form;rw[show(L++[z]).length=L.length+1 by simp] at hv6;subst hv6;have HON:Hid (Own w' W1.heap.size 9 (.slice A6 (L.length+1) c6) ((no.take (j+1)).map (Qa4 sl 0 e v (QaF ⟨a,b⟩)))):=Lh (by rw[HTK.out,List.map_append,HLL.out,List.map_cons,List.map_nil,HLS2.out];exact ho');have hrow:∀r,(Value.slice A5 L.length c5).ownBlock=some r→W1.heap.size≤r:=fun r hr=>(HLT.out r hr).1
     have HBN:Hid (Below V1.heap.size V1 w'):=Lh (HBd.out.grown hg' HBd.out.size (fun r hr=>by have:=hrow r hr;have:=H8.out;have:=HZ0.out;omega));have hbk:∀i,i<W1.heap.size→w'.heap[i]? =wx.heap[i]? :=fun i hi=>hg'.block i (by have:=HSZd.out;omega) (fun e=>by have:=hrow i e.symm;omega)
     have HX8N:Hid (ABox w' X8 46 [.string lab,.slice A1 k c1x,.slice A5 L.length c5]):=Lh ((hbk X8 (by have:=H8.out;have:=HZ0.out;omega)).trans HX8d.out);have HKPN:Hid (∀i,i<W1.heap.size→i≠X8→w'.heap[i]? =W1.heap[i]?):=Lh (fun i hi h8=>(hbk i hi).trans (HKPd.out i hi h8));have HSZN:Hid (W1.heap.size≤w'.heap.size):=Lh (by have h3:=hg'.size;have:=HSZd.out;omega);refine hK _ _ ?_;clear hK K ho' hg' hv' HOd HS9 H9 hrow hbk;(try simp only[Act.put,sA0]);refine Qao (i:=7) (oi:=_) rfl (by kernel_rfl) (by rfl) (fun K hK=>?_);go_simp;refine hK _ _ ?_;clear hK K;(try go_frame);have r1:=HX8N.out.cell 2 rfl;have f1:=HX8N.out.fz 2;refine Qao (i:=8) (oi:=_) rfl (by kernel_rfl) (by rfl) (fun K hK=>?_);go_simp;refine hK _ _ ?_;clear hK K r1 f1;(try go_frame);refine wpAny_done (by kernel_rfl) ?_ _;unfold Exit.then;have HLN2:Hid (LpI V1 W1 X8 [.string lab,.slice A1 k c1x,.slice A6 (L.length+1) c6] (.slice A6 (L.length+1) c6) ((no.take (j+1)).map (Qa4 sl 0 e v (QaF ⟨a,b⟩))) (w'.setCell ⟨X8,2,none⟩ (.slice A6 (L.length+1) c6))):=Lh ⟨HBN.out.setCell (p:=⟨X8,2,none⟩) (by have:=H8.out;show V1.heap.size≤X8;omega) _,fun i hi h8=>by rw[Qaa _ _ _ _ h8];exact HKPN.out i hi h8,HX8N.out.set 2 (.slice A6 (L.length+1) c6),own_setB HON.out (by have:=H8.out;have:=HZ0.out;omega) _ _,by have:=HSZN.out;simpa using this⟩;go_wp2_with fail;go_roundw;(case rel=>exact⟨j+1,_,by go_num,by omega,HLN2⟩);case measure=>(first|(simp[intOf];done)|(simp[intOf];omega))
    ·obtain rfl:j=nn:=by omega
     have hjI:¬(j:Int)<(j:Int):=(by omega);have ej:no.take j=no:=List.take_of_length_le (by rw[HNN.out];exact Nat.le_refl _);rw[ej] at HL;obtain⟨A2,c2x,hv6,hs2⟩:=QdJ HL.out.ow;rw[qM,HNN.out] at hv6;subst hv6;have HS2:=Lh hs2;have HBw:Hid (Below wb.heap.size wb wr):=Lh (HB1.out.trans (HL.out.bl.mono HB1.out.size));have HXR:=Lh (HX2.out.to HBw.out);have r0:=HL.out.x8.cell 0 rfl;have r1:=HL.out.x8.cell 1 rfl;have r2:=HL.out.x8.cell 2 rfl;have q0:=HXR.out.cell 0 rfl;have q1:=HXR.out.cell 1 rfl;have q2:=HXR.out.cell 2 rfl;have f0:=HXR.out.fz 0;have f1:=HXR.out.fz 1;have f2:=HXR.out.fz 2;go_wp2_with fail;have HXF:=Lh (((HXR.out.set 0 (.string lab)).set 1 (.slice A1 k c1x)).set 2 (.slice A2 j c2x));have hX2:=HX2.out.lt;have hw2:w.heap.size+1+1<V1.heap.size:=by have:=HB1.out.size;omega
     have hoth:∀i,i≠w.heap.size+1+1→(((wr.setCell ⟨w.heap.size+1+1,0,none⟩ (.string lab)).setCell ⟨w.heap.size+1+1,1,none⟩ (.slice A1 k c1x)).setCell ⟨w.heap.size+1+1,2,none⟩ (.slice A2 j c2x)).heap[i]? =wr.heap[i]? :=fun i hi=>by rw[Qaa _ _ _ _ hi,Qaa _ _ _ _ hi,Qaa _ _ _ _ hi]
     have hzz:(((wr.setCell ⟨w.heap.size+1+1,0,none⟩ (.string lab)).setCell ⟨w.heap.size+1+1,1,none⟩ (.slice A1 k c1x)).setCell ⟨w.heap.size+1+1,2,none⟩ (.slice A2 j c2x)).heap.size=wr.heap.size:=by simp
     have hb5:Below w.heap.size w (((wr.setCell ⟨w.heap.size+1+1,0,none⟩ (.string lab)).setCell ⟨w.heap.size+1+1,1,none⟩ (.slice A1 k c1x)).setCell ⟨w.heap.size+1+1,2,none⟩ (.slice A2 j c2x)):=(((HBA.out.trans (HBw.out.mono HBA.out.size)).setCell (p:=⟨w.heap.size+1+1,0,none⟩) (by show w.heap.size≤w.heap.size+1+1;omega) _).setCell (p:=⟨w.heap.size+1+1,1,none⟩) (by show w.heap.size≤w.heap.size+1+1;omega) _).setCell (p:=⟨w.heap.size+1+1,2,none⟩) (by show w.heap.size≤w.heap.size+1+1;omega) _;refine bodyPost_ret (v:=.agg #[.string lab,.slice A1 k c1x,.slice A2 j c2x]) (QaN Tryz.results19 _ _ (w.heap.size+1+1) _ [.string lab,.slice A1 k c1x,.slice A2 j c2x] _ rfl HXF.out Tryz.underlying46 rfl (by kernel_rfl)) rfl ⟨A1,c1x,A2,c2x,by rw[HLAB.out],?_,?_,hb5⟩
     ·refine(HS1.out.keep (fun i (hi:W0.heap.size≤i) hl=>(hoth i (by have:=H8.out;omega)).trans (HL.out.kp i hl (by have:=H8.out;omega))) (by rw[hzz];exact HL.out.sz)).mono (fun i (hi:W0.heap.size≤i) _=>by have:=H8.out;show w.heap.size≤i;omega)
     ·refine(HS2.out.keep (fun i (hi:W1.heap.size≤i) hl=>hoth i (by have:=H8.out;have:=HZ0.out;omega)) (by rw[hzz];exact Nat.le_refl _)).mono (fun i (hi:W1.heap.size≤i) _=>by have:=H8.out;have:=HZ0.out;show w.heap.size≤i;omega)
instance:Rep SheetP where
 size:=3
 R w S cs s:=∃va vb,cs=[.string s.label,va,vb]∧Rep.R w S [va] s.body∧Rep.R w S [vb] s.notes
 len:=by rintro w S cs s ⟨va,vb,rfl,_⟩;rfl
 one:=by
  rintro w S cs s ⟨va,vb,rfl,ha,hb⟩ u hu;have h1:=Rep.one ha va (by simp);have h2:=Rep.one hb vb (by simp);simp at hu;rcases hu with rfl|rfl|rfl
  ·rfl
  ·exact h1
  ·exact h2
 keep:=by rintro w w' S cs s ⟨va,vb,rfl,ha,hb⟩ hk;exact⟨va,vb,rfl,Rep.keep ha hk,Rep.keep hb hk⟩
 mono:=by rintro w S S' cs s ⟨va,vb,rfl,ha,hb⟩ hk;exact⟨va,vb,rfl,Rep.mono ha hk,Rep.mono hb hk⟩
theorem Qd8 {w:World}{S:Nat→Prop}{A:Option Addr}{c:Nat}{l:List SheetP}(h:Sl w S A c l){k:Nat}(hk:k<l.length):
 ∃b o A1 c1 A2 c2,A=some ⟨b,o,none⟩∧S b∧b<w.heap.size∧w.cell? ⟨b,o+k*3,none⟩=some (.string l[k].label)∧w.cell? ⟨b,o+k*3+1,none⟩=some (.slice A1 l[k].body.length c1)∧w.cell? ⟨b,o+k*3+2,none⟩=some (.slice A2 l[k].notes.length c2)∧ Sl w S A1 c1 l[k].body∧Sl w S A2 c2 l[k].notes:=by
 obtain⟨b,o,es,rfl,hb,hlt,⟨va,vb,rfl,⟨A1,c1,e1,h1,_⟩,⟨A2,c2,e2,h2,_⟩⟩,hc⟩:=h.at_ hk;obtain rfl:va=.slice A1 l[k].body.length c1:=by simpa using e1
 obtain rfl:vb=.slice A2 l[k].notes.length c2:=by simpa using e2
 exact⟨b,o,A1,c1,A2,c2,rfl,hb,hlt,hc 0 _ rfl,hc 1 _ rfl,hc 2 _ rfl,h1,h2⟩
def QaC (l:List SectP)(p:PageP):TextP:=(QbT l p.entry p.ver).getD ⟨[],[]⟩
def QaU (m h:Int)(l:List SectP)(sl:List Seal):List SheetP:=(Qae m h l).map fun p=>Qb4 sl p (QaF (QaC l p))
set_option maxRecDepth 100000 in
theorem textAt_any {m h:Int}{A:Option Addr}{c:Nat}{l:List SectP}{w:World}(hs:Sl w (fun b=>b<w.heap.size) A c l)(hsh:Qbe l)(heq:∀s∈l,s.texts.length=s.vers.length)(entry ver:Int):
 Calls Tryz.prog 27 #[.agg #[.int .i64 m,.int .i64 h,.slice A l.length c],.int .i64 entry,.int .i64 ver] w fun e W'=>TxtP (QbT l entry ver) e W'∧Below w.heap.size w W':=by
 obtain⟨wb,hwb⟩:∃wb,(w.alloc (.cells #[.int .i64 m,.int .i64 h,.slice A l.length c] 25)).alloc (.cells #[.slice none 0 0,.slice none 0 0] 36)=wb:=⟨_,rfl⟩;have hba:Below w.heap.size w wb:=by rw[←hwb];exact(bR.alloc nL _).alloc (by simp) _
 have hx0:ABox wb w.heap.size 25 [.int .i64 m,.int .i64 h,.slice A l.length c]:=by rw[←hwb];exact(Below.heap_alloc _ _ _ (by simp)).trans (heap_alloc_new w _)
 have hx1:ABox wb (w.heap.size+1) 36 [.slice none 0 0,.slice none 0 0]:=by rw[←hwb];exact Qak (by simp)
 have HF:=Lh (Qdm A c l m h entry wb (hs.to hba) (by have:=hsh.1;omega));have hsz:wb.heap.size=w.heap.size+2:=by rw[←hwb];simp
 have HZ:=Lh hsz;have HB:=Lh hba;have HX0:=Lh hx0;have HX1:=Lh hx1;have HS:=Lh hs;have HQ:=Lh heq;have HSH:=Lh hsh;have hlc:l.length≤c:=hs.1;have x0:=hx0.cell 0 rfl;have x1:=hx0.cell 1 rfl;have x2:=hx0.cell 2 rfl;clear hba hx0 hx1 hsz hs heq hsh;go_enter Tryz.func27,Tryz.ntmps27;go_upto_region 1 with(fail);(try rw[hwb]);clear hwb
 go_upto_region 2 with(first|(go_at_call 69;refine HF.out.mono ?_;rintro e w1 ⟨rfl,hb1⟩;have HB1:=Lh hb1;clear hb1 x0 x1 x2)|fail)
 have HX1w:=Lh (HX1.out.to HB1.out);have HX0w:=Lh (HX0.out.to HB1.out);have HBA:Hid (Below w.heap.size w w1):=Lh (HB.out.trans (HB1.out.mono HB.out.size));have HZ1:Hid (w.heap.size+2≤w1.heap.size):=Lh (by have:=HB1.out.size;have:=HZ.out;omega);clear HF HB1 HX1 HX0 HB;rcases QbM l entry with hf|⟨k,hk,hf,hfe⟩
 ·have HN:=Lh (QcW (v:=ver) hf);rw[hf];have z0:=HX1w.out.cell 0 rfl;have f0:=HX1w.out.fz 0;have z1:=(HX1w.out.set 0 (.slice none 0 0)).cell 1 rfl;have f1:=(HX1w.out.set 0 (.slice none 0 0)).fz 1;clear hf;go_wp2_with fail
  exact bodyPost_ret (v:=.tuple #[.agg #[.slice none 0 0,.slice none 0 0],.bool false]) (Qai Tryz.results27 _ _ (w.heap.size+1) _ #[.slice none 0 0,.slice none 0 0] (0,0) _ rfl (abox2 HX1w.out _ _) Tryz.underlying36 rfl (by kernel_rfl)) rfl ⟨TxtP.no _ HN.out,QbD HBA.out (by omega) _ _⟩
 ·obtain⟨b,o,Ag,cg,An,cn,rfl,-,hbl,e0,e1,e2,e3,hg1,hn1,-⟩:=QbO HS.out hk;have hqe:=HQ.out _ (List.getElem_mem hk);have hshx:=HSH.out.2 _ (List.getElem_mem hk);obtain⟨x,hx⟩:∃x,l[k]=x:=⟨_,rfl⟩;rw[hx] at e0 e1 e2 e3 hg1 hn1 hqe hshx;have HNO:Hid (Qdf x.vers ver= -1→QbT l entry ver=none):=Lh (fun h1=>QcV hf hk hx (by omega) h1);have HYES:Hid (∀j (hj:j<x.texts.length),Qdf x.vers ver=(j:Int)→QbT l entry ver=some x.texts[j]):=Lh (fun j hj h1=>QdM hf hk hx hj h1);have k2:=(HBA.out.cell (p:=⟨b,o+k*4+2,none⟩) hbl).trans e2;have k3:=(HBA.out.cell (p:=⟨b,o+k*4+3,none⟩) hbl).trans e3;have x2:=HX0w.out.cell 2 rfl;have HIX:=Lh (QcN Ag cg x.vers ver w1 (hg1.to HBA.out) (by have:=hshx.1;omega));have HN1:=Lh hn1;have HSX:=Lh hshx;have HV:Hid (x.texts.length=x.vers.length∧x.vers.length≤1048576):=Lh ⟨hqe,hshx.1⟩;have hnc:x.texts.length≤cn:=hn1.1;rw[hf];have hkI:¬(k:Int)<0:=(by omega);have hkL:(k:Int)<(l.length:Int):=(by omega);clear hf hfe e0 e1 e2 e3 hg1 hn1 hqe hshx hx
  go_upto_region 5 with(first|(go_at_call 70;refine HIX.out.mono ?_;rintro e w2 ⟨rfl,rfl⟩)|fail)
  by_cases hin:ver∈x.vers
  ·have hj:x.vers.findIdx (fun x=>decide (x=ver))<x.vers.length:=List.findIdx_lt_length_of_exists ⟨ver,hin,by simp⟩;have hix:Qdf x.vers ver=(x.vers.findIdx (fun x=>decide (x=ver)):Int):=(by unfold Qdf;rw[if_pos hj]);obtain⟨j,hje⟩:∃j,x.vers.findIdx (fun x=>decide (x=ver))=j:=⟨_,rfl⟩;rw[hje] at hj hix;have hqt:j<x.texts.length:=(by rw[HV.out.1];exact hj);have hyes:=HYES.out j hqt hix;rw[hix];obtain⟨bt,ot,Aa,ca,Ab,cb,rfl,-,hbt,t0',t1',ht1,ht2⟩:=Qcn HN1.out hqt;have hsx:=HSX.out.2.2 _ (List.getElem_mem hqt);obtain⟨z,hz⟩:∃z,x.texts[j]=z:=⟨_,rfl⟩;rw[hz] at t0' t1' ht1 ht2 hyes hsx;have t0:=(HBA.out.cell (p:=⟨bt,ot+j*2,none⟩) hbt).trans t0';have t1:=(HBA.out.cell (p:=⟨bt,ot+j*2+1,none⟩) hbt).trans t1';have HYE:=Lh hyes;have HBT:=Lh (QcK Aa Ab ca cb z.a z.b _ (ht1.to HBA.out) (ht2.to HBA.out) hsx.1 hsx.2);have hjI:¬(j:Int)<0:=(by omega);have hjT:(j:Int)<(x.texts.length:Int):=(by omega);clear hz hyes ht1 ht2 t0' t1' hbt hix hje hj hin hsx
   go_wp2_with (first
    |(go_at_call 71;refine HBT.out.mono ?_;rintro e w3 ⟨va,vb,rfl,hr,hb3⟩;obtain⟨Ag1,Ag2,hvv,⟨A5,c5,e5,hs5,-⟩,⟨A6,c6,e6,hs6,-⟩⟩:=hr;cases hvv;cases e5;cases e6;have HS5:=Lh hs5;have HS6:=Lh hs6;have HB3:=Lh hb3;clear hs5 hs6 hb3 k2 k3 x2 t0 t1;have z0:=(HX1w.out.to HB3.out).cell 0 rfl;have f0:=(HX1w.out.to HB3.out).fz 0;have z1:=((HX1w.out.to HB3.out).set 0 (.slice A5 z.a.length c5)).cell 1 rfl;have f1:=((HX1w.out.to HB3.out).set 0 (.slice A5 z.a.length c5)).fz 1)
    |fail)
   have HBF:=Lh (QbD (HBA.out.trans (HB3.out.mono HBA.out.size)) (b:=w.heap.size+1) (by omega) (.slice A5 z.a.length c5) (.slice A6 z.b.length c6))
   have hkp:∀i,Up w1.heap.size i→((w3.setCell ⟨w.heap.size+1,0,none⟩ (.slice A5 z.a.length c5)).setCell ⟨w.heap.size+1,1,none⟩ (.slice A6 z.b.length c6)).heap[i]? =w3.heap[i]? :=fun i (hi:w1.heap.size≤i)=>by
    have:=HZ1.out;exact(Qaa _ _ _ _ (by omega)).trans (Qaa _ _ _ _ (by omega))
   refine bodyPost_ret (v:=.tuple #[.agg #[.slice A5 z.a.length c5,.slice A6 z.b.length c6],.bool true]) (Qai Tryz.results27 _ _ (w.heap.size+1) _ #[.slice A5 z.a.length c5,.slice A6 z.b.length c6] (0,0) _ rfl (abox2 (HX1w.out.to HB3.out) _ _) Tryz.underlying36 rfl (by kernel_rfl)) rfl ⟨TxtP.yes HYE.out ((HS5.out.keep (fun i hi _=>hkp i hi) (by simp)).mono fun i _ hl=>hl) ((HS6.out.keep (fun i hi _=>hkp i hi) (by simp)).mono fun i _ hl=>hl),HBF.out⟩
  ·have hix:Qdf x.vers ver= -1:=Qb1 fun i hi e=>hin (by rw[←e];exact List.getElem_mem hi)
   have HNN:Hid (QbT l entry ver=none):=Lh (HNO.out hix);rw[hix];have z0:=HX1w.out.cell 0 rfl;have f0:=HX1w.out.fz 0;have z1:=(HX1w.out.set 0 (.slice none 0 0)).cell 1 rfl;have f1:=(HX1w.out.set 0 (.slice none 0 0)).fz 1;clear hix hin k2 k3 x2;go_wp2_with fail
   exact bodyPost_ret (v:=.tuple #[.agg #[.slice none 0 0,.slice none 0 0],.bool false]) (Qai Tryz.results27 _ _ (w.heap.size+1) _ #[.slice none 0 0,.slice none 0 0] (0,0) _ rfl (abox2 HX1w.out _ _) Tryz.underlying36 rfl (by kernel_rfl)) rfl ⟨TxtP.no _ HNN.out,QbD HBA.out (by omega) _ _⟩






structure PgV (l:List SectP)(p:PageP):Prop where
 num:1≤p.num∧p.num≤16384
 suf:0≤p.suf∧p.suf≤16384
 bl:p.body.length≤1048576
 nl:p.notes.length≤1048576
 la:(QaC l p).a.length≤100
 lb:(QaC l p).b.length≤100
 tt:tot ((QaC l p).a++(QaC l p).b)≤1048576
 ws:∀y∈QaF (QaC l p),y.s.size≤1000
 inl:∀x∈p.body++p.notes,InL (tot ((QaC l p).a++(QaC l p).b)) x
theorem sheet_info:(Tryz.prog.info? 46).map (fun i=>(i.zero,i.size,i.bytes))=some (some (.agg #[.string ⟨#[]⟩,.slice none 0 0,.slice none 0 0]),3,64):=by kernel_rfl
set_option maxRecDepth 100000 in
theorem sheets_any {m h:Int}{A:Option Addr}{c:Nat}{l:List SectP}(As:Option Addr)(cs ns:Nat)(sl:List Seal){w:World}(H:BookOk w m h A c l)(hT:Tabs w)(heq:∀s∈l,s.texts.length=s.vers.length) (hP:∀p∈Qae m h l,PgV l p) (hps:(Qae m h l).length≤1048576) (hsl:Sl w (fun b=>b<w.heap.size) As cs sl) (hn:sl.length=ns) (hsz:ns≤1048576) (hg:∀s∈sl,0≤s.g∧s.g<16):
 Calls Tryz.prog 16 #[.agg #[.int .i64 m,.int .i64 h,.slice A l.length c],.slice As ns cs] w fun r W'=>∃v,r=.returned v∧Own W' w.heap.size 46 v (QaU m h l sl)∧Below w.heap.size w W':=by
 have hb0:=(Below.refl w.heap.size w).alloc nL (.cells #[.int .i64 m,.int .i64 h,.slice A l.length c] 25);have hx0:ABox (w.alloc (.cells #[.int .i64 m,.int .i64 h,.slice A l.length c] 25)) w.heap.size 25 [.int .i64 m,.int .i64 h,.slice A l.length c]:=heap_alloc_new w _;have hPg:=QbI (H.to hb0);have HTX:=Lh (fun(W:World) (hW:Below w.heap.size w W) (p:PageP)=>textAt_any (m:=m) (h:=h) (w:=W) (H.s.to hW) H.sh heq p.entry p.ver);have HSL:=Lh (fun(W:World) (hW:Below w.heap.size w W)=>hsl.to hW);have HTB:=Lh (fun(W:World) (hW:Below w.heap.size w W)=>hT.to hW);have HPV:=Lh hP;have HNS:=Lh hn;have HSZ:=Lh hsz;have HG:=Lh hg;have HLL:=Lh hps;go_enter Tryz.func16,Tryz.ntmps16;go_upto_region 1 with(fail);generalize w.alloc (.cells #[.int .i64 m,.int .i64 h,.slice A l.length c] 25)=w0 at*;have x0:=hx0.cell 0 rfl;have x1:=hx0.cell 1 rfl;have x2:=hx0.cell 2 rfl;have HB0:=Lh hb0;have HX0:=Lh hx0;have HP:=Lh hPg;clear hb0 hx0 hPg hT hsl hn hsz hg hP hps heq H
 go_upto_region 3 with(first|(go_at_call 26;refine HP.out.mono ?_;rintro e w1 ⟨v,R,rfl,ho,hR,hb1⟩;obtain⟨A2,c2,rfl,hs⟩:=ho.plain.sl;have hnc:=hs.1;have hnc2:c2≤9223372036854775807:=hs.2.1;have hn2:=HLL.out;have HS:=Lh hs;have HX1:=Lh (HX0.out.to hb1);have HB1:=Lh (HB0.out.trans (hb1.mono HB0.out.size));clear hb1 x0 x1 x2 hR ho hs)|fail)
 obtain⟨ps,hps⟩:∃ps,Qae m h l=ps:=⟨_,rfl⟩;have HPS:=Lh hps;rw[hps] at HS HPV HLL hnc hn2 ⊢;clear HP;obtain⟨n,hn⟩:∃n,ps.length=n:=⟨_,rfl⟩;have HN:=Lh hn;rw[hn] at hnc hn2 ⊢;clear hn hps;go_wp2_with fail;go_loopw [5,13] (fun v i wr=>∃k:Nat,k≤n∧i=.int .i64 k∧Hid (Own wr w1.heap.size 46 v ((ps.take k).map fun p=>Qb4 sl p (QaF (QaC l p))))∧Below w1.heap.size w1 wr) (fun _ i _=>n-(intOf i).toNat);(case atStart=>exact⟨0,by omega,rfl,Lh (Own.nil _ _ _),Below.refl _ _⟩);case round=>
  obtain⟨k,hk,rfl,HO,hb⟩:=hrel;have HB:=Lh hb;have HBW:Hid (Below w.heap.size w wr):=Lh (HB1.out.trans (hb.mono HB1.out.size));by_cases hlt:k<n
  ·have hkl:k<ps.length:=by rw[HN.out];exact hlt
   have HTK:=Lh (qT hkl);obtain⟨b,o,va,vb,rfl,-,hblt,p0,p1,p2,p3,p4,p5,ra,rb⟩:=Qd6 (HS.out.keep (Kept.all hb) hb.size) hkl;have hy:=HPV.out _ (List.getElem_mem hkl);obtain⟨Ap,cp,e1,hbo,-⟩:=ra;obtain⟨Aq,cq,e2,hno,-⟩:=rb;obtain rfl:va=.slice Ap ps[k].body.length cp:=by simpa using e1
   obtain rfl:vb=.slice Aq ps[k].notes.length cq:=by simpa using e2
   obtain⟨p,hp⟩:∃p,ps[k]=p:=⟨_,rfl⟩;rw[hp] at p0 p1 p2 p3 p4 p5 hbo hno hy HTK;have HY:=Lh hy;have HBO:=Lh hbo;have HNO:=Lh hno;obtain⟨num,suf,en,ve,body,notes⟩:=p;dsimp only at p0 p1 p2 p3 p4 p5 HBO HNO;obtain⟨a,rfl⟩:=Int.eq_ofNat_of_zero_le (show 0≤num by have:=HY.out.num.1;dsimp only at this;omega);obtain⟨z,rfl⟩:=Int.eq_ofNat_of_zero_le (show 0≤suf from HY.out.suf.1);have hki:(k:Int)<n:=(by omega);obtain⟨L,hL⟩:∃L,(ps.take k).map (fun p=>Qb4 sl p (QaF (QaC l p)))=L:=⟨_,rfl⟩;have HLL2:=Lh hL;have HLN:Hid (L.length≤1048576):=Lh (by rw[←hL,qM,qK];omega);rw[hL] at HO;clear hy hbo hno hb e1 e2 hp hL;go_upto_region 5 with(fail);obtain⟨X1,hX1⟩:∃q,wr.heap.size=q:=⟨_,rfl⟩;obtain⟨w2,hw2⟩:∃q,wr.alloc (.cells #[.int .i64 a,.int .i64 z,.int .i64 en,.int .i64 ve,.slice Ap body.length cp,.slice Aq notes.length cq] 43)=q:=⟨_,rfl⟩;have hb2:Below wr.heap.size wr w2:=by rw[←hw2];exact bR.alloc nL _
   have hx1:ABox w2 X1 43 [.int .i64 a,.int .i64 z,.int .i64 en,.int .i64 ve,.slice Ap body.length cp,.slice Aq notes.length cq]:=(by rw[←hw2,←hX1];exact heap_alloc_new wr _);rw[hw2,hX1];have HXP:=Lh hx1;have HB2:=Lh hb2;have HBW2:Hid (Below w.heap.size w w2):=Lh (HBW.out.trans (hb2.mono HBW.out.size));have HXB:Hid (ABox w2 w.heap.size 25 [.int .i64 m,.int .i64 h,.slice A l.length c]):=Lh ((HX1.out.to HB.out).to hb2);have b0:=HXB.out.cell 0 rfl;have b1:=HXB.out.cell 1 rfl;have b2:=HXB.out.cell 2 rfl;have q2:=hx1.cell 2 rfl;have q3:=hx1.cell 3 rfl;clear hX1 hw2 hb2 hx1 p0 p1 p2 p3 p4 p5
   go_upto_region 6 with(first|(go_at_call 27;refine(HTX.out w2 HBW2.out ⟨a,z,en,ve,body,notes⟩).mono ?_;rintro e w3 ⟨⟨Aa,ca,Ab,cb,rfl,hta,htb⟩,hb3⟩;have HTA:=Lh hta;have HTB2:=Lh htb;have HB3:=Lh hb3;clear hta htb hb3 b0 b1 b2 q2 q3)|fail)
   obtain⟨tx,htx⟩:∃t,QaC l ⟨a,z,en,ve,body,notes⟩=t:=⟨_,rfl⟩;have HTX9:=Lh htx;have htx':(QbT l en ve).getD ⟨[],[]⟩=tx:=htx;have HY2:=HY;rw[htx'] at HTA HTB2 ⊢;obtain⟨X2,hX2⟩:∃q,w3.heap.size=q:=⟨_,rfl⟩;obtain⟨w4,hw4⟩:∃q,w3.alloc (.cells #[.slice Aa tx.a.length ca,.slice Ab tx.b.length cb] 36)=q:=⟨_,rfl⟩;have hb4:Below w3.heap.size w3 w4:=(by rw[←hw4];exact bR.alloc nL _);have hx2:ABox w4 X2 36 [.slice Aa tx.a.length ca,.slice Ab tx.b.length cb]:=(by rw[←hw4,←hX2];exact heap_alloc_new w3 _);rw[hw4,hX2];have hb24:Below w2.heap.size w2 w4:=HB3.out.trans (hb4.mono HB3.out.size);have HBr4:Hid (Below wr.heap.size wr w4):=Lh (HB2.out.trans (hb24.mono HB2.out.size));have HB14:Hid (Below w1.heap.size w1 w4):=Lh (HB.out.trans (HBr4.out.mono HB.out.size));have HBW4:Hid (Below w.heap.size w w4):=Lh (HBW.out.trans (HBr4.out.mono HBW.out.size));have hxp:=HXP.out.to hb24;have p0:=hxp.cell 0 rfl;have p1:=hxp.cell 1 rfl;have p2:=hxp.cell 2 rfl;have p3:=hxp.cell 3 rfl;have p4:=hxp.cell 4 rfl;have p5:=hxp.cell 5 rfl;have t0:=hx2.cell 0 rfl;have t1:=hx2.cell 1 rfl;have hsb:∀{α:Type} [Rep α] {S:Nat→Prop} {A:Option Addr} {c:Nat} {l:List α},Sl w3 (fun b=>b<w3.heap.size) A c l→Sl w4 (fun b=>b<w4.heap.size) A c l:=fun h=>h.to hb4
   have HSH:=Lh (sheet_any a z en ve Ap Aq cp cq body notes Aa Ab ca cb tx.a tx.b As cs ns sl w4 (((HBO.out.mono (fun _ _ hh=>hh)).to HBr4.out)) (((HNO.out.mono (fun _ _ hh=>hh)).to HBr4.out)) HY.out.bl HY.out.nl (by have:=HY.out.inl;rw[htx] at this;exact this) (by have:=HY.out.num;dsimp only at this;omega) (by have:=HY.out.suf;dsimp only at this;omega) (HTA.out.to hb4) (HTB2.out.to hb4) (by have:=HY.out.la;rw[htx] at this;exact this) (by have:=HY.out.lb;rw[htx] at this;exact this) (by have:=HY.out.tt;rw[htx] at this;exact this) (by have:=HY.out.ws;rw[htx] at this;exact this) (HSL.out w4 HBW4.out) HNS.out HSZ.out HG.out (HTB.out w4 HBW4.out));have HO4:=Lh (HO.out.below HBr4.out);have hln:L.length=k:=(by rw[←HLL2.out,qM,qK];have:=HN.out;omega);obtain⟨A5,c5,rfl,-⟩:=HO4.out.form;have HSE:Hid (Qb4 sl ⟨a,z,en,ve,body,notes⟩ (QaF (QaC l ⟨a,z,en,ve,body,notes⟩))=⟨labT a z,body.map (Qa4 sl 0 en ve (QaF ⟨tx.a,tx.b⟩)),notes.map (Qa4 sl 0 en ve (QaF ⟨tx.a,tx.b⟩))⟩):=Lh (by rw[htx];unfold Qb4 labS;rfl);have HBL:=Lh HY.out.bl;have HNL:=Lh HY.out.nl;dsimp only at HBL HNL
   have HRE:∀(w5:World) {A6 A7:Option Addr} {c6 c7:Nat},Below w4.heap.size w4 w5→Sl w5 (Up w4.heap.size) A6 c6 (body.map (Qa4 sl 0 en ve (QaF ⟨tx.a,tx.b⟩)))→Sl w5 (Up w4.heap.size) A7 c7 (notes.map (Qa4 sl 0 en ve (QaF ⟨tx.a,tx.b⟩)))→Rep.R (w5.alloc (.cells #[.string (labT a z),.slice A6 body.length c6,.slice A7 notes.length c7] 46)) (fun b=>some b≠(Value.slice A5 L.length c5).ownBlock) [.string (labT a z),.slice A6 body.length c6,.slice A7 notes.length c7] (⟨labT a z,body.map (Qa4 sl 0 en ve (QaF ⟨tx.a,tx.b⟩)),notes.map (Qa4 sl 0 en ve (QaF ⟨tx.a,tx.b⟩))⟩:SheetP):=by
    intro w5 A6 A7 c6 c7 hb5 h6 h7;have hba:Below w5.heap.size w5 (w5.alloc (.cells #[.string (labT a z),.slice A6 body.length c6,.slice A7 notes.length c7] 46)):=bR.alloc nL _;have hno:∀i,w4.heap.size≤i→some i≠(Value.slice A5 L.length c5).ownBlock:=fun i hi e=>by have:=(HO4.out.lt i e.symm).2;omega
    exact⟨_,_,rfl,⟨A6,c6,by simp,(h6.keep (Kept.all hba) hba.size).mono (fun i hi _=>hno i hi),by rw[qM];have:=HBL.out;omega⟩,⟨A7,c7,by simp,(h7.keep (Kept.all hba) hba.size).mono (fun i hi _=>hno i hi),by rw[qM];have:=HNL.out;omega⟩⟩
   clear htx htx' hX2 hw4 hb4 hx2 hb24 hxp hsb hln
   go_wp2_with (first|(go_at_call 19;refine HSH.out.mono ?_;rintro e w5 ⟨A6,c6,A7,c7,rfl,hs6,hs7,hb5⟩;have HS6:=Lh hs6;have HS7:=Lh hs7;have HB5:=Lh hb5;clear hs6 hs7 hb5 p0 p1 p2 p3 p4 p5 t0 t1)|(at_builtin;refine Qau (α:=SheetP) _ rfl (.tmp 26) (.tmp 31) 29 rfl w1.heap.size 46 (.agg #[.string ⟨#[]⟩,.slice none 0 0,.slice none 0 0]) 64 Tryz.underlying29 sheet_info rfl (show 0<3 by decide) (.slice A5 L.length c5) L rfl ((HO4.out.below HB5.out).alloc _) w5.heap.size _ ⟨labT a z,body.map (Qa4 sl 0 en ve (QaF ⟨tx.a,tx.b⟩)),notes.map (Qa4 sl 0 en ve (QaF ⟨tx.a,tx.b⟩))⟩ (0,0) 46 rfl (heap_alloc_new w5 _) (HRE w5 HB5.out HS6.out HS7.out) (by have:=HLN.out;omega) (by have:=HLN.out;omega) (by have:=HB14.out.size;have:=HB5.out.size;simp;omega) _ rfl ?_;intro g9 p9 w9 hown9 hg9 hat9 hlt9;have HON:Hid (Own w9 w1.heap.size 46 (.slice (some ⟨g9,0,none⟩) (L.length+1) p9) ((ps.take (k+1)).map fun p=>Qb4 sl p (QaF (QaC l p)))):=Lh (by rw[HTK.out,List.map_append,HLL2.out,List.map_cons,List.map_nil,HSE.out];exact hown9);have HBN:Hid (Below w1.heap.size w1 w9):=Lh (((HB14.out.trans (HB5.out.mono HB14.out.size)).alloc (by have:=HB14.out.size;have:=HB5.out.size;omega) _).grown hg9 (by have:=HB14.out.size;have:=HB5.out.size;simp;omega) (fun r hr=>(HO4.out.lt r hr).1));clear hown9 hg9 hat9 hlt9)|fail)
   go_roundw;(case rel=>exact⟨k+1,by omega,by go_num,HON,HBN.out⟩);case measure=>(first|(simp[intOf];done)|(simp[intOf];omega))
  ·obtain rfl:k=n:=by omega
   have hki:¬(k:Int)<(k:Int):=(by omega);have ek:ps.take k=ps:=List.take_of_length_le (by rw[HN.out];exact Nat.le_refl _);rw[ek] at HO;have HSP:Hid (QaU m h l sl=ps.map fun p=>Qb4 sl p (QaF (QaC l p))):=Lh (by unfold QaU;rw[HPS.out]);clear ek hb;go_wp2_with fail;go_ret;exact⟨_,rfl,by rw[HSP.out];exact HO.out.re (by have:=HB1.out.size;omega),HBW.out⟩
theorem width_size {s:ByteArray}(h:1≤Qaq s):s.size≤40:=by
 unfold Qaq at h;split at h
 ·omega
 ·omega
theorem FineT.ws {a b:List (List Word)}(H:FineT a b):∀y∈QaF ⟨a,b⟩,y.s.size≤1000:=by
 intro y hy;unfold QaF at hy;simp only[List.mem_flatten] at hy;obtain⟨p,hp,hy⟩:=hy;have:=width_size (H.w p hp y hy).1.1;omega
theorem wrong_fine {m h:Int}{a b:List (List Word)}(H:Qa5 m h a b=0):FineT a b:=by
 unfold Qa5 at H;split at H
 ·rename_i h1;exact absurd H h1
 ·rename_i h1;exact(Qa0 (m:=m) (h:=h) (Classical.not_not.1 h1)).1
theorem GoodB.pgv {m h:Int}{l:List SectP}(H:GoodB m h l){p:PageP}(hp:p∈Qae m h l)(h1:1≤p.num∧p.num≤16384)(h2:0≤p.suf∧p.suf≤16384)(h3:p.body.length≤1048576)(h4:p.notes.length≤1048576):PgV l p:=by
 obtain⟨t,ht,hw,-,hi⟩:=H.text p hp;have e:QaC l p=t:=by unfold QaC;rw[ht];rfl
 have F:=wrong_fine hw;exact⟨h1,h2,h3,h4,by rw[e];exact F.la,by rw[e];exact F.lb,by rw[e];exact Nat.le_trans F.tot (by decide),by rw[e];exact F.ws,by rw[e];exact hi⟩
structure MarkP where
 br:Int
 num:Int
 suf:Int
 line:Int
 words:ByteArray
 deriving DecidableEq
theorem snocInd {α:Type}{p:List α→Prop}(h0:p [])(h1:∀l a,p l→p (l++[a]))(l:List α):p l:=by
 rw[←l.reverse_reverse];generalize l.reverse=r;induction r with
 |nil=>exact h0
 |cons a r ih=>rw[List.reverse_cons];exact h1 _ _ ih
def stepR (st:List (List ByteArray) × Bool)(o:Option ByteArray):List (List ByteArray) × Bool:=match o with
 |none=>(st.1,false)
 |some s=>if st.2 then(st.1.dropLast++[st.1.getLastD []++[s]],true) else(st.1++[[s]],true)
def QbA (l:List (Option ByteArray)):List (List ByteArray) × Bool:=l.foldl stepR ([],false)
theorem QbE (l:List (Option ByteArray))(o:Option ByteArray):QbA (l++[o])=stepR (QbA l) o:=by
 unfold QbA;rw[List.foldl_append];rfl
def tellB (sl:List Seal)(gs e v x:Int):Bool:=decide (gset (sl.filter (onP e v x))≠0)&&seeB sl gs e v x
def optW (sl:List Seal)(gs e v:Int)(ws:List Word)(x:LineP)(i:Nat):Option ByteArray:=if tellB sl gs e v (x.fr+(i:Int))=true then some (ws.getD (x.fr.toNat+i) noW).s else none
def Qcu (sl:List Seal)(gs e v:Int)(ws:List Word)(x:LineP)(n:Nat):List (Option ByteArray):=(List.range n).map (optW sl gs e v ws x)
theorem optsW_succ (sl:List Seal)(gs e v:Int)(ws:List Word)(x:LineP)(n:Nat):Qcu sl gs e v ws x (n+1)=Qcu sl gs e v ws x n++[optW sl gs e v ws x n]:=by
 unfold Qcu;rw[List.range_succ,List.map_append];rfl
def mkM (br:Int)(p:PageP)(i:Nat)(s:List ByteArray):MarkP:=⟨br,p.num,p.suf,(i:Int)+1,Qbg s⟩
def Qcj (sl:List Seal)(gs br:Int)(p:PageP)(ws:List Word)(x:LineP)(i n:Nat):List MarkP:=(QbA (Qcu sl gs p.entry p.ver ws x n)).1.map (mkM br p i)
def marksL (sl:List Seal)(gs br:Int)(p:PageP)(ws:List Word)(x:LineP)(i:Nat):List MarkP:=Qcj sl gs br p ws x i (x.un-x.fr).toNat
def QaE (sl:List Seal)(gs br:Int)(p:PageP)(ws:List Word):Nat→List LineP→List MarkP
 |_,[]=>[]
 |i,x::l=>marksL sl gs br p ws x i++QaE sl gs br p ws (i+1) l
theorem QcQ (sl:List Seal)(gs br:Int)(p:PageP)(ws:List Word):∀(a b:List LineP) (i:Nat),QaE sl gs br p ws i (a++b)=QaE sl gs br p ws i a++QaE sl gs br p ws (i+a.length) b
 |[],b,i=>by simp[QaE]
 |x::a,b,i=>by
  rw[List.cons_append,QaE,QaE,QcQ sl gs br p ws a b (i+1),List.append_assoc,qC,show i+1+a.length=i+(a.length+1) by omega]
theorem marksF_succ (sl:List Seal)(gs br:Int)(p:PageP)(ws:List Word){l:List LineP}{k:Nat}(hk:k<l.length):QaE sl gs br p ws 0 (l.take (k+1))=QaE sl gs br p ws 0 (l.take k)++marksL sl gs br p ws l[k] k:=by
 rw[qT hk,QcQ,qK,Nat.min_eq_left (by omega),Nat.zero_add,QaE,QaE,List.append_nil]
def QbQ (sl:List Seal)(gs br:Int)(p:PageP)(ws:List Word):List MarkP:=QaE sl gs br p ws 0 (p.body++p.notes)
def QaR (l:List SectP)(sl:List Seal)(gs br:Int)(ps:List PageP):List MarkP:=ps.flatMap fun p=>QbQ sl gs br p (QaF (QaC l p))
def QaQ (m h:Int)(l:List SectP)(sl:List Seal)(gs br:Int):List MarkP:=QaR l sl gs br (Qae m h l)
theorem QdS (l:List SectP)(sl:List Seal)(gs br:Int){ps:List PageP}{k:Nat}(hk:k<ps.length):QaR l sl gs br (ps.take (k+1))=QaR l sl gs br (ps.take k)++QbQ sl gs br ps[k] (QaF (QaC l ps[k])):=by
 unfold QaR;rw[qT hk,List.flatMap_append,List.flatMap_cons,List.flatMap_nil,List.append_nil]
/-! The runs are closed and open ones. -/
theorem Qca (l:List (Option ByteArray)):(QbA l).2=true→∃c r,(QbA l).1=c++[r]∧r≠[]:=by
 revert l;refine snocInd ?_ ?_
 ·intro h;exact absurd h (by decide)
 ·intro l o ih;rw[QbE];intro h;cases o with
  |none=>exact absurd h (by simp[stepR])
  |some s=>
   unfold stepR;dsimp only;split
   ·exact⟨_,_,rfl,by simp⟩
   ·exact⟨_,_,rfl,by simp⟩
theorem runsT_len (l:List (Option ByteArray)):(QbA l).1.length≤l.length:=by
 revert l;refine snocInd ?_ ?_
 ·simp[QbA]
 ·intro l o ih;rw[QbE,qA,List.length_singleton];cases o with
  |none=>simp only[stepR];omega
  |some s=>
   unfold stepR;dsimp only;split
   ·rename_i h;obtain⟨c,r,e,_⟩:=Qca l h;rw[e] at ih ⊢;rw[List.dropLast_concat,qA,List.length_singleton];rw[qA,List.length_singleton] at ih;omega
   ·rw[qA,List.length_singleton];omega
theorem runsT_none (l:List (Option ByteArray)):QbA (l++[none])=((QbA l).1,false):=by rw[QbE];rfl
theorem runsT_new {l:List (Option ByteArray)}(h:(QbA l).2=false)(s:ByteArray):QbA (l++[some s])=((QbA l).1++[[s]],true):=by
 rw[QbE];unfold stepR;dsimp only;rw[if_neg (by rw[h];decide)]
theorem Qb6 {l:List (Option ByteArray)}(h:(QbA l).2=true){c:List (List ByteArray)}{r:List ByteArray}(e:(QbA l).1=c++[r])(s:ByteArray):QbA (l++[some s])=(c++[r++[s]],true):=by
 rw[QbE];unfold stepR;dsimp only;rw[if_pos h,e,List.dropLast_concat,List.getLastD_concat]
theorem runsT_mem (l:List (Option ByteArray)):∀r∈(QbA l).1,r≠[]∧r.length≤l.length∧∀z∈r,some z∈l:=by
 revert l;refine snocInd ?_ ?_
 ·intro r hr;exact absurd hr (by simp[QbA])
 ·intro l o ih r hr;rw[qA,List.length_singleton]
  have old:∀r∈(QbA l).1,r≠[]∧r.length≤l.length+1∧∀z∈r,some z∈l++[o]:=fun r hr=>by
   obtain⟨h1,h2,h3⟩:=ih r hr;exact⟨h1,by omega,fun z hz=>List.mem_append_left _ (h3 z hz)⟩
  cases o with
  |none=>rw[runsT_none] at hr;exact old r hr
  |some s=>
   cases h:(QbA l).2 with
   |true=>
    obtain⟨c,q,e,hq⟩:=Qca l h;rw[Qb6 h e] at hr;rcases List.mem_append.1 hr with hr|hr
    ·exact old r (by rw[e];exact List.mem_append_left _ hr)
    ·obtain rfl:=List.mem_singleton.1 hr;obtain⟨h1,h2,h3⟩:=ih q (by rw[e];simp);refine⟨by simp,by rw[qA,List.length_singleton];omega,fun z hz=>?_⟩;rcases List.mem_append.1 hz with hz|hz
     ·exact List.mem_append_left _ (h3 z hz)
     ·rw[List.mem_singleton.1 hz];simp
   |false=>
    rw[runsT_new h] at hr;rcases List.mem_append.1 hr with hr|hr
    ·exact old r hr
    ·obtain rfl:=List.mem_singleton.1 hr;exact⟨by simp,by simp,fun z hz=>by rw[List.mem_singleton.1 hz];simp⟩
/-! The marks of a line,up to word number k. -/
def Qde (sl:List Seal)(gs br:Int)(p:PageP)(ws:List Word)(x:LineP)(i k:Nat):List MarkP:=Qcj sl gs br p ws x i (k-x.fr.toNat)
def opTo (sl:List Seal)(gs:Int)(p:PageP)(ws:List Word)(x:LineP)(k:Nat):Bool:=(QbA (Qcu sl gs p.entry p.ver ws x (k-x.fr.toNat))).2
section
variable {sl:List Seal} {gs br:Int} {p:PageP} {ws:List Word} {x:LineP} {i k:Nat}
theorem mkTo_start:Qde sl gs br p ws x i x.fr.toNat=[]∧opTo sl gs p ws x x.fr.toNat=false:=by
 unfold Qde opTo Qcj;rw[Nat.sub_self];exact⟨rfl,rfl⟩
theorem mkTo_end (h:0≤x.fr):Qde sl gs br p ws x i x.un.toNat=marksL sl gs br p ws x i:=by
 unfold Qde marksL;rw[show(x.un-x.fr).toNat=x.un.toNat-x.fr.toNat by omega]
theorem Qdv (h0:0≤x.fr)(hk:x.fr.toNat≤k):Qcu sl gs p.entry p.ver ws x (k+1-x.fr.toNat)=Qcu sl gs p.entry p.ver ws x (k-x.fr.toNat)++[if tellB sl gs p.entry p.ver (k:Int)=true then some (ws.getD k noW).s else none]:=by
 rw[show k+1-x.fr.toNat=(k-x.fr.toNat)+1 by omega,optsW_succ];unfold optW;rw[show x.fr+((k-x.fr.toNat:Nat):Int)=(k:Int) by omega,show x.fr.toNat+(k-x.fr.toNat)=k by omega]
theorem Qec (h0:0≤x.fr)(hk:x.fr.toNat≤k)(ht:tellB sl gs p.entry p.ver (k:Int)=false):Qde sl gs br p ws x i (k+1)=Qde sl gs br p ws x i k∧opTo sl gs p ws x (k+1)=false:=by
 unfold Qde opTo Qcj;rw[Qdv h0 hk,if_neg (by rw[ht];decide),runsT_none];exact⟨rfl,rfl⟩
theorem mkTo_new (h0:0≤x.fr)(hk:x.fr.toNat≤k)(ht:tellB sl gs p.entry p.ver (k:Int)=true)(ho:opTo sl gs p ws x k=false):Qde sl gs br p ws x i (k+1)=Qde sl gs br p ws x i k++[⟨br,p.num,p.suf,(i:Int)+1,(ws.getD k noW).s⟩]∧opTo sl gs p ws x (k+1)=true:=by
 unfold Qde opTo Qcj at*;rw[Qdv h0 hk,if_pos ht,runsT_new ho,List.map_append];refine⟨?_,rfl⟩;rw[List.map_cons,List.map_nil];unfold mkM;rw[joinS_one]
theorem mkTo_more (h0:0≤x.fr)(hk:x.fr.toNat≤k)(ht:tellB sl gs p.entry p.ver (k:Int)=true)(ho:opTo sl gs p ws x k=true)(hw:∀y∈ws,y.s.size≤1000):
 ∃C m,Qde sl gs br p ws x i k=C++[m]∧Qde sl gs br p ws x i (k+1)=C++[{m with words:=m.words++(⟨#[32]⟩++(ws.getD k noW).s)}]∧opTo sl gs p ws x (k+1)=true∧m.words.size≤1001*k:=by
 unfold Qde opTo Qcj at*;obtain⟨c,r,e,hr⟩:=Qca _ ho;refine⟨c.map (mkM br p i),mkM br p i r,?_,?_,?_,?_⟩
 ·rw[e,List.map_append];rfl
 ·rw[Qdv h0 hk,if_pos ht,Qb6 ho e,List.map_append,List.map_cons,List.map_nil];unfold mkM;rw[joinS_snoc r hr,ByteArray.append_assoc]
 ·rw[Qdv h0 hk,if_pos ht,Qb6 ho e]
 ·obtain⟨-,h2,h3⟩:=runsT_mem _ r (by rw[e];simp);unfold Qcu at h2;rw[qM,List.length_range] at h2
  have h4:=joinS_size r fun z hz=>by
   have h5:=h3 z hz;unfold Qcu at h5;obtain⟨q,-,h6⟩:=List.mem_map.1 h5;unfold optW at h6;split at h6
   ·cases h6;rw[List.getD_eq_getElem?_getD];cases hq:ws[x.fr.toNat+q]? with
    |none=>exact Nat.zero_le _
    |some y=>exact hw y (List.mem_of_getElem? hq)
   ·cases h6
  refine Nat.le_trans h4 (Nat.mul_le_mul_left _ ?_);omega
end
/-! The same runs,with the open one apart. -/
theorem okPages_some {a b:List (List Word)}{m h:Int}(hw:Qa5 m h a b=0):Qag a b m h≠[]:=by
 unfold Qa5 at hw;by_cases hE:textE a b m h=0
 ·rw[if_neg (by simpa using hE)] at hw;obtain⟨hf,⟨h1,h2⟩,hp⟩:=Qa0 hE;unfold Qag;rw[if_pos hE];unfold Qay;have hb:QaL a m≠[]:=by
   cases a with
   |nil=>
    have hn:b=[]:=by
     unfold QaX at hp;have e0:QaL [] m=[]:=rfl;rw[e0] at hp;split at hp
     ·cases hp
     ·split at hp
      ·cases hp
      ·simp only[List.flatMap_nil,Qbc] at hp;split at hp
       ·cases hp
       ·rename_i h9;have h8:(Qal [] b m).length=b.length:=(by unfold Qal;rw[Qa2]);exact List.eq_nil_of_length_eq_zero (by omega)
    subst hn;exfalso;rw[if_pos (by rfl)] at hw;cases hw
   |cons p ps=>
    have hr:=hf.reg h1 h2 (p:=p) (by simp);have:=setP_ne (ws:=p) 0 hr (hf.p p (by simp)).1;unfold QaL;rw[Qar,List.flatten_cons];intro e;exact this (List.append_eq_nil_iff.1 e).1
  have ha:1≤Qaj (QaL a m) (Qal a b m):=by
   cases hB:QaL a m with
   |nil=>exact absurd hB hb
   |cons x xs=>rw[Qaj,List.map_cons,List.sum_cons];omega
  obtain⟨f,hf2⟩:∃f,Qaj (QaL a m) (Qal a b m)=f+1:=⟨Qaj (QaL a m) (Qal a b m)-1,by omega⟩;rw[hf2,setPages,if_neg (fun e=>hb e.1)];simp
 ·rw[if_pos hE] at hw;exact absurd hw hE
/-! Labels. -/
theorem labU_k (e v num:Int)(k:Nat):∀(ps:List PageP) (suf:Int),∀p∈QaS e v num suf (k+1) ps,p.num=num∧suf<p.suf∧p.suf≤suf+ps.length
 |[],suf=>by simp[QaS]
 |p::ps,suf=>by
  have h1:=labU_k e v num k ps (suf+1);rw[QbK,if_neg (by omega),if_neg (by omega)];intro q hq;rw[qC];rcases List.mem_cons.1 hq with rfl|hq
  ·exact⟨rfl,by show suf<suf+1;omega,by show suf+1≤_;omega⟩
  ·have:=h1 q hq;omega
theorem labU_0 (e v suf:Int):∀(ps:List PageP) (num:Int),∀p∈QaS e v num suf 0 ps,num<p.num∧p.num≤num+ps.length∧p.suf=suf
 |[],num=>by simp[QaS]
 |p::ps,num=>by
  have h1:=labU_0 e v suf ps (num+1);rw[QbK,if_pos rfl,if_pos rfl];intro q hq;rw[qC];rcases List.mem_cons.1 hq with rfl|hq
  ·exact⟨by show num<num+1;omega,by show num+1≤_;omega,rfl⟩
  ·have:=h1 q hq;omega
theorem versU_k (m h e num:Int):∀(ts:List TextP) (k:Nat) (suf:Int) (vs:List Int),∀p∈QaK m h e (k+1) num suf vs ts,p.num=num∧suf<p.suf∧p.suf≤suf+(QaK m h e (k+1) num suf vs ts).length
 |[],k,suf,vs=>by simp[QaK]
 |t::ts,k,suf,vs=>by
  rw[QaK,if_neg (by omega),if_neg (by omega),qA,Qbk];have h1:=labU_k e (vs.headD 0) num k (Qag t.a t.b m h) suf;have h3:=versU_k m h e num ts (k+1) (suf+(Qag t.a t.b m h).length) vs.tail;intro p hp;rcases List.mem_append.1 hp with hp|hp
  ·have:=h1 p hp;omega
  ·have:=h3 p hp;omega
theorem versU_0 (m h e num:Int)(ts:List TextP)(vs:List Int)(ht:∀t∈ts,Qag t.a t.b m h≠[]):∀p∈QaK m h e 0 num 0 vs ts,(num<p.num∧p.num≤num+(QaG m h ⟨e,true,vs,ts⟩:Nat))∧0≤p.suf∧p.suf≤(QaK m h e 0 num 0 vs ts).length:=by
 cases ts with
 |nil=>simp[QaK]
 |cons t ts=>
  rw[QaK,if_pos rfl,if_pos rfl,qA,Qbk];have h1:=labU_0 e (vs.headD 0) 0 (Qag t.a t.b m h) num;have h3:=versU_k m h e (num+(Qag t.a t.b m h).length) ts 0 0 vs.tail;have hl:0<(Qag t.a t.b m h).length:=List.length_pos_iff.2 (ht t (by simp));have hpl:QaG m h ⟨e,true,vs,t::ts⟩=(Qag t.a t.b m h).length:=rfl;rw[hpl];intro p hp;rcases List.mem_append.1 hp with hp|hp
  ·have:=h1 p hp;omega
  ·have:=h3 p hp;omega
theorem plainB_le (m h:Int)(s:SectP)(num:Int):QaG m h s≤(QaK m h s.entry 0 num 0 s.vers s.texts).length:=by
 obtain⟨e,f,v,ts⟩:=s;cases ts with
 |nil=>exact Nat.zero_le _
 |cons t ts=>
  show(Qag t.a t.b m h).length≤_;rw[QaK,qA,Qbk];omega
theorem sectsU {m h:Int}:∀(l:List SectP) (num:Int),(∀s∈l,∀t∈s.texts,Qag t.a t.b m h≠[])→∀p∈Qaw m h num l,(num<p.num∧p.num≤num+(Qaw m h num l).length)∧0≤p.suf∧p.suf≤(Qaw m h num l).length
 |[],num,_=>by simp[Qaw]
 |s::ss,num,H=>by
  rw[Qaw,qA];have h1:=versU_0 m h s.entry num s.texts s.vers (H s (by simp));have h3:=sectsU ss (num+QaG m h s) (fun x hx=>H x (by simp[hx]));have hpl:QaG m h ⟨s.entry,true,s.vers,s.texts⟩=QaG m h s:=rfl;have hle:=plainB_le m h s num;rw[hpl] at h1;intro p hp;rcases List.mem_append.1 hp with hp|hp
  ·have:=h1 p hp;omega
  ·have:=h3 p hp;omega
theorem GoodB.labU {m h:Int}{l:List SectP}(H:GoodB m h l):∀p∈Qae m h l,(1≤p.num∧p.num≤16384)∧0≤p.suf∧p.suf≤16384:=fun p hp=>by
 have h1:=sectsU l 0 (fun s hs t ht=>okPages_some ((H.s s hs).w t ht)) p hp;have h2:=H.p;unfold Qae at h2;omega
/-! Lines. -/
theorem fillP_le (notes:List (List LineP))(h:Nat):∀(body:List LineP) (lines shown:Nat) (queue:List LineP),lines≤h→shown≤h→(fillP notes h body lines shown queue).1≤h∧(fillP notes h body lines shown queue).2.1≤h
 |[],lines,shown,queue,h1,h2=>by rw[fillP];exact⟨h1,h2⟩
 |x::body,lines,shown,queue,h1,h2=>by
  rw[fillP];split
  ·rename_i hf;have hr:0<Qcc h lines shown:=by
    unfold Qce at hf;split at hf
    ·exact of_decide_eq_true hf
    ·have:=of_decide_eq_true (Bool.and_eq_true_iff.1 hf).2;have h9:(min shown 1:Nat)≤1:=Nat.min_le_right _ _;omega
   unfold Qcc at hr;refine fillP_le notes h body _ _ _ (by omega) ?_;split
   ·have:=Nat.min_le_right ((queue++Qab notes x).length-shown) (h-(lines+1)-shown-1);omega
   ·exact h2
  ·exact⟨h1,h2⟩
theorem setPages_h (notes:List (List LineP))(h:Nat):∀(f:Nat) (body queue:List LineP),∀p∈setPages notes h f body queue,p.body.length≤h∧p.notes.length≤h
 |0,_,_=>by simp[setPages]
 |f+1,body,queue=>by
  have h1:=fillP_le notes h body 0 (min queue.length (h-1)) queue (Nat.zero_le _) (by have:=Nat.min_le_right queue.length (h-1);omega);intro p hp;rw[setPages] at hp;split at hp
  ·simp at hp
  ·rcases List.mem_cons.1 hp with rfl|hp
   ·exact⟨by show(List.take _ _).length≤_;rw[qK];have:=h1.1;omega,by show(List.take _ _).length≤_;rw[qK];have:=h1.2;omega⟩
   ·exact setPages_h notes h f _ _ p hp
theorem okPages_h {a b:List (List Word)}{m h:Int}:∀p∈Qag a b m h,p.body.length≤100∧p.notes.length≤100:=by
 unfold Qag;split
 ·rename_i hE;obtain⟨hf,⟨h1,h2⟩,hp⟩:=Qa0 hE;have hh:h≤100:=by
   unfold QaX at hp;split at hp
   ·exact absurd hp (by decide)
   ·omega
  intro p hp;unfold Qay at hp;have:=setPages_h (Qal a b m) h.toNat (Qaj (QaL a m) (Qal a b m)) (QaL a m) [] p hp;omega
 ·intro p hp;simp at hp
theorem GoodB.lines {m h:Int}{l:List SectP}(H:GoodB m h l):∀p∈Qae m h l,p.body.length≤100∧p.notes.length≤100:=by
 intro p hp;have hc:p.core∈coreS m h l:=by rw[←Qeb];exact List.mem_map_of_mem hp
 unfold coreS at hc;obtain⟨s,hs,hcs⟩:=List.mem_flatMap.1 hc;obtain⟨he,j,hj,hv,h1,q,hq,h2,h3⟩:=coreV_at m h s.entry s.texts s.vers (H.s s hs).nt p.core hcs;have h5:=okPages_h q hq;have h6:p.body=q.body:=h2;have h7:p.notes=q.notes:=h3;rw[h6,h7];exact h5
theorem GoodB.pv {m h:Int}{l:List SectP}(H:GoodB m h l):∀p∈Qae m h l,PgV l p:=fun p hp=>by
 have h1:=H.labU p hp;have h2:=H.lines p hp;exact H.pgv hp h1.1 h1.2 (by omega) (by omega)
/-! Marks. -/
theorem optsW_len (sl:List Seal)(gs e v:Int)(ws:List Word)(x:LineP)(n:Nat):(Qcu sl gs e v ws x n).length=n:=by unfold Qcu;rw[qM,List.length_range]
theorem marksW_len (sl:List Seal)(gs br:Int)(p:PageP)(ws:List Word)(x:LineP)(i n:Nat):(Qcj sl gs br p ws x i n).length≤n:=by
 unfold Qcj;rw[qM];have:=runsT_len (Qcu sl gs p.entry p.ver ws x n);rwa [optsW_len] at this
theorem marksF_len (sl:List Seal)(gs br:Int)(p:PageP)(ws:List Word)(N:Nat):∀(l:List LineP) (i:Nat),(∀x∈l,InL N x)→(QaE sl gs br p ws i l).length≤N*l.length
 |[],i,_=>by simp[QaE]
 |x::l,i,H=>by
  rw[QaE,qA,qC,Nat.mul_succ];have h1:=marksW_len sl gs br p ws x i (x.un-x.fr).toNat;have h2:=marksF_len sl gs br p ws N l (i+1) fun y hy=>H y (List.mem_cons_of_mem _ hy)
  have h3:=H x (List.mem_cons_self ..);unfold InL at h3;unfold marksL;omega
theorem annexB_len (l:List SectP)(sl:List Seal)(gs br:Int)(N:Nat):∀(ps:List PageP),(∀p∈ps,(QbQ sl gs br p (QaF (QaC l p))).length≤N)→(QaR l sl gs br ps).length≤N*ps.length
 |[],_=>by simp[QaR]
 |p::ps,H=>by
  unfold QaR;rw[List.flatMap_cons,qA,qC,Nat.mul_succ];have h1:=H p (List.mem_cons_self ..);have h2:=annexB_len l sl gs br N ps fun y hy=>H y (List.mem_cons_of_mem _ hy)
  unfold QaR at h2;omega
theorem annexB_le (l:List SectP)(sl:List Seal)(gs br:Int){ps:List PageP}{k:Nat}(hk:k<ps.length){N:Nat}(h:(QaR l sl gs br ps).length≤N):(QaR l sl gs br (ps.take k)).length+(QbQ sl gs br ps[k] (QaF (QaC l ps[k]))).length≤N:=by
 have h1:=QdS l sl gs br hk;have h2:QaR l sl gs br ps=QaR l sl gs br (ps.take (k+1))++QaR l sl gs br (ps.drop (k+1)):=by
  unfold QaR;rw[←List.flatMap_append,List.take_append_drop]
 rw[h2,h1,qA,qA] at h;omega
theorem GoodB.annex {m h:Int}{l:List SectP}(H:GoodB m h l)(sl:List Seal)(gs br:Int):(QaQ m h l sl gs br).length≤400000000000:=by
 have h1:=annexB_len l sl gs br (100000*200) (Qae m h l) fun p hp=>by
  obtain⟨t,ht,hw,-,hi⟩:=H.text p hp;have e:QaC l p=t:=(by unfold QaC;rw[ht];rfl);have F:=(wrong_fine hw).tot;have h2:=H.lines p hp;have h3:=marksF_len sl gs br p (QaF (QaC l p)) (tot (t.a++t.b)) (p.body++p.notes) 0 hi;unfold QbQ;refine Nat.le_trans h3 (Nat.mul_le_mul F ?_);rw[qA];omega
 have h2:=H.p;unfold QaQ;omega
instance:Rep MarkP where
 size:=5
 R _ _ cs x:=cs=[.int .i64 x.br,.int .i64 x.num,.int .i64 x.suf,.int .i64 x.line,.string x.words]
 len:=by rintro w S cs s rfl;rfl
 one:=by rintro w S cs s rfl u hu;simp at hu;rcases hu with rfl|rfl|rfl|rfl|rfl<;>rfl
 keep:=by rintro w w' S cs s h _;exact h
 mono:=by rintro w S S' cs s h _;exact h
theorem mark_info:(Tryz.prog.info? 61).map (fun i=>(i.zero,i.size,i.bytes))=some (some (.agg #[.int .i64 0,.int .i64 0,.int .i64 0,.int .i64 0,.string ⟨#[]⟩]),5,48):=by kernel_rfl
theorem mark_at {w:World}{S:Nat→Prop}{A:Option Addr}{c:Nat}{l:List MarkP}(h:Sl w S A c l){k:Nat}(hk:k<l.length):
 ∃b o,A=some ⟨b,o,none⟩∧S b∧b<w.heap.size∧w.cell? ⟨b,o+k*5,none⟩=some (.int .i64 l[k].br)∧w.cell? ⟨b,o+k*5+1,none⟩=some (.int .i64 l[k].num)∧w.cell? ⟨b,o+k*5+2,none⟩=some (.int .i64 l[k].suf)∧ w.cell? ⟨b,o+k*5+3,none⟩=some (.int .i64 l[k].line)∧w.cell? ⟨b,o+k*5+4,none⟩=some (.string l[k].words):=by
 obtain⟨b,o,es,rfl,hb,hlt,rfl,hc⟩:=h.at_ hk;exact⟨b,o,rfl,hb,hlt,hc 0 _ rfl,hc 1 _ rfl,hc 2 _ rfl,hc 3 _ rfl,hc 4 _ rfl⟩
theorem Own.parts {α:Type}[Rep α]{w:World}{base:Nat}{e:TypeId}{v:Value}{l:List α}(h:Own w base e v l):∃A c,v=.slice A l.length c∧Sl w (fun b=>b<w.heap.size) A c l∧(∀a,A=some a→base≤a.block∧a.block<w.heap.size)∧l.length≤c∧c≤maxLen:=by
 obtain⟨A,c,e,hs⟩:=h.sl;obtain⟨A',c',e',h1,h2,h3⟩:=h.form;rw[e] at e';cases e';exact⟨A,c,e,hs,h1,h2,h3⟩
theorem mkTo_step {sl:List Seal}{gs br:Int}{p:PageP}{ws:List Word}{x:LineP}{i k:Nat}(h0:0≤x.fr)(hk:x.fr.toNat≤k):(Qde sl gs br p ws x i k).length≤(Qde sl gs br p ws x i (k+1)).length:=by
 cases ht:tellB sl gs p.entry p.ver (k:Int) with
 |false=>rw[(Qec h0 hk ht).1];exact Nat.le_refl _
 |true=>
  cases ho:opTo sl gs p ws x k with
  |false=>rw[(mkTo_new h0 hk ht ho).1,qA];omega
  |true=>
   unfold Qde opTo Qcj at*;obtain⟨c,r,e,hr⟩:=Qca _ ho;rw[Qdv h0 hk,if_pos ht,Qb6 ho e,e];simp
theorem mkTo_mono {sl:List Seal}{gs br:Int}{p:PageP}{ws:List Word}{x:LineP}{i k n:Nat}(h0:0≤x.fr)(hk:x.fr.toNat≤k)(hn:k≤n):(Qde sl gs br p ws x i k).length≤(Qde sl gs br p ws x i n).length:=by
 obtain⟨d,rfl⟩:=Nat.exists_eq_add_of_le hn;clear hn;induction d with
 |zero=>exact Nat.le_refl _
 |succ d ih=>exact Nat.le_trans ih (mkTo_step h0 (by omega))
structure MkI (B0:Nat)(W0:World)(r0:Option Nat)(v:Value)(l:List MarkP)(w:World):Prop where
 ow:Own w B0 61 v l
 ks:KS (fun i=>some i≠r0) W0 w
 rw:v.ownBlock=r0∨∀i,v.ownBlock=some i→W0.heap.size≤i
theorem MkI.start {B0:Nat}{w:World}{v:Value}{l:List MarkP}(h:Own w B0 61 v l):MkI B0 w v.ownBlock v l w:=⟨h,KS.refl _ _,.inl rfl⟩
theorem MkI.to {B0:Nat}{W0 w w':World}{r0:Option Nat}{v:Value}{l:List MarkP}(h:MkI B0 W0 r0 v l w)(hb:Below w.heap.size w w'):MkI B0 W0 r0 v l w':=⟨h.ow.below hb,h.ks.trans (KS.of_below hb _),h.rw⟩
theorem MkI.trans {B0:Nat}{W0 W1 w:World}{r0:Option Nat}{v v1:Value}{l l1:List MarkP}(h:MkI B0 W0 r0 v1 l1 W1)(k:MkI B0 W1 v1.ownBlock v l w):MkI B0 W0 r0 v l w:=by
 refine⟨k.ow,⟨k.ks.os.trans h.ks.os,k.ks.tape.trans h.ks.tape,k.ks.output.trans h.ks.output,Nat.le_trans h.ks.size k.ks.size,fun i hi hl=>?_⟩,?_⟩
 ·have hne:some i≠v1.ownBlock:=fun e=>by
   rcases h.rw with h1|h1
   ·rw[h1] at e;exact hi e
   ·have:=h1 i e.symm;omega
  exact(k.ks.block i hne (Nat.lt_of_lt_of_le hl h.ks.size)).trans (h.ks.block i hi hl)
 ·rcases k.rw with h2|h2
  ·rw[h2];exact h.rw
  ·exact .inr fun i hi=>Nat.le_trans h.ks.size (h2 i hi)
theorem MkI.grown {B0:Nat}{W0 w w':World}{r0:Option Nat}{v v':Value}{l l':List MarkP}(h:MkI B0 W0 r0 v l w)(hown:Own w' B0 61 v' l')(hg:w.grownBy w' v.ownBlock)(hv:v'.ownBlock=v.ownBlock∨v'.ownBlock=some w.heap.size):MkI B0 W0 r0 v' l' w':=by
 have hne:∀i,some i≠r0→i<W0.heap.size→some i≠v.ownBlock:=fun i hi hl e=>by
  rcases h.rw with h1|h1
  ·rw[h1] at e;exact hi e
  ·have:=h1 i e.symm;omega
 refine⟨hown,⟨hg.os.trans h.ks.os,hg.tape.trans h.ks.tape,hg.output.trans h.ks.output,Nat.le_trans h.ks.size hg.size,fun i hi hl=>?_⟩,?_⟩
 ·exact(hg.block i (Nat.lt_of_lt_of_le hl h.ks.size) (hne i hi hl)).trans (h.ks.block i hi hl)
 ·rcases hv with h2|h2
  ·rw[h2];exact h.rw
  ·exact .inr fun i hi=>by rw[h2] at hi;cases hi;exact h.ks.size
theorem MkI.block {B0:Nat}{W0 w:World}{r0:Option Nat}{v:Value}{l:List MarkP}(h:MkI B0 W0 r0 v l w){i:Nat}(hi:i<W0.heap.size)(hr:some i≠r0):w.heap[i]? =W0.heap[i]? :=h.ks.block i hr hi
theorem MkI.off {B0:Nat}{W0 w:World}{r0:Option Nat}{v:Value}{l:List MarkP}(h:MkI B0 W0 r0 v l w){i:Nat}(hi:i<W0.heap.size)(hr:some i≠r0):some i≠v.ownBlock:=fun e=>by
 rcases h.rw with h1|h1
 ·rw[h1] at e;exact hr e
 ·have:=h1 i e.symm;omega
theorem MkI.box {B0:Nat}{W0 w:World}{r0:Option Nat}{v:Value}{l:List MarkP}(h:MkI B0 W0 r0 v l w){X:Nat}{t:TypeId}{cs:List Value}(hx:ABox W0 X t cs)(hr:some X≠r0):ABox w X t cs:=(h.block hx.lt hr).trans hx
theorem MkI.below {B0:Nat}{W0 w:World}{r0:Option Nat}{v:Value}{l:List MarkP}(h:MkI B0 W0 r0 v l w)(hB:B0≤W0.heap.size)(hr:∀i,r0=some i→B0≤i):Below B0 W0 w:=h.ks.below (fun i hi e=>by have:=hr i e.symm;omega) hB
theorem MkI.cell {B0:Nat}{W0 w:World}{r0:Option Nat}{v:Value}{l:List MarkP}(h:MkI B0 W0 r0 v l w){b:Nat}(o:Nat){u:Value}(hi:b<W0.heap.size)(hr:some b≠r0)(hc:W0.cell? ⟨b,o,none⟩=some u):w.cell? ⟨b,o,none⟩=some u:=by
 rw[←hc];unfold World.cell?;rw[h.block hi hr]
theorem MkI.set {B0:Nat}{W0 w:World}{r0:Option Nat}{v:Value}{l:List MarkP}{x:MarkP}{s:ByteArray}(h:MkI B0 W0 r0 v (l++[x]) w):∃g c,v=.slice (some ⟨g,0,none⟩) (l.length+1) c∧g<w.heap.size∧w.cell? ⟨g,l.length*5+4,none⟩=some (.string x.words)∧w.frozen? ⟨g,l.length*5+4,none⟩=false∧l.length+1≤c∧c≤maxLen∧ MkI B0 W0 r0 v (l++[{x with words:=s}]) (w.setCell ⟨g,l.length*5+4,none⟩ (.string s)):=by
 obtain⟨A,c,hv,hsl,hA,hc1,hc2⟩:=h.ow.parts;rw[qA,List.length_singleton] at hv hc1;have hown:=h.ow;obtain⟨xs,hx,ho,hr⟩:=hown;rcases hx.2 with⟨h1,h2⟩|⟨g,cap,cur,h1,hbg,hg,hcur⟩
 ·rw[h1] at hv;cases hv
 ·rw[qA,List.length_singleton] at h1;have hcc:cap=c:=(by rw[h1] at hv;cases hv;rfl);subst hcc;subst h1;have hk:l.length<(l++[x]).length:=by simp
  obtain⟨h3,h4⟩:=Own.setf h.ow l.length 4 hk (by decide) (.string s) rfl {x with words:=s} (fun S es he=>by
   have he2:Rep.R w S es x:=(by simpa using he)
   have he':es=[.int .i64 x.br,.int .i64 x.num,.int .i64 x.suf,.int .i64 x.line,.string x.words]:=he2
   subst he'
   rfl) (o:=l.length*5+4) rfl
  obtain⟨b,o,hA2,-,hlt,-,-,-,-,h5⟩:=mark_at hsl hk;rw[hA2] at hv;cases hv;rw[Nat.zero_add] at h5;refine⟨g,cap,rfl,hlt,by simpa using h5,by simp[World.frozen?,hg],hc1,hc2,?_⟩;have e9:(l++[x]).set l.length {x with words:=s}=l++[{x with words:=s}]:=(by simp);rw[e9] at h3;exact h.grown h3 h4 (.inl rfl)
def SGood (s:SectP):Prop:=(0≤s.entry∧s.entry≤65535)∧0<s.vers.length∧s.vers.length≤1000∧∀v∈s.vers,0≤v∧v≤2147483647
theorem saddE_zero {sl:List Seal}{q:Seal}(h:(saddE sl q).2=0):(saddE sl q).1=sl++[q]:=by
 unfold saddE at h ⊢;split at h
 ·cases h
 ·rename_i h1;split at h
  ·cases h
  ·rename_i h2;split at h
   ·cases h
   ·rename_i h3;rw[if_neg h1,if_neg h2,if_neg h3]
def SlOk (sl:List Seal):Prop:=∀s∈sl,s.ok∧0≤s.g∧s.g<16
set_option maxRecDepth 100000 in
theorem rseals_any (A0:Option Addr)(c0:Nat)(l0:List Int)(m h:Int)(Ab:Option Addr)(cb:Nat)(ss:List SectP)(w:World)(hs0:Sl w (fun b=>b<w.heap.size) A0 c0 l0)(hss:Sl w (fun b=>b<w.heap.size) Ab cb ss)(hG:∀s∈ss,SGood s)(hsn:ss.length≤1000):
 Calls Tryz.prog 46 #[.slice A0 l0.length c0,.agg #[.int .i64 m,.int .i64 h,.slice Ab ss.length cb]] w fun r W'=>∃v sl,r=.returned v∧Own W' w.heap.size 118 v sl∧sl.length≤6∧SlOk sl∧Below w.heap.size w W':=by
 obtain⟨n,hn⟩:∃n,l0.length=n:=⟨_,rfl⟩;obtain⟨ns,hns⟩:∃ns,ss.length=ns:=⟨_,rfl⟩;obtain⟨wb,hwb⟩:∃wb,w.alloc (.cells #[.int .i64 m,.int .i64 h,.slice Ab ns cb] 25)=wb:=⟨_,rfl⟩;have hba:Below w.heap.size w wb:=by rw[←hwb];exact bR.alloc nL _
 have hx0:ABox wb w.heap.size 25 [.int .i64 m,.int .i64 h,.slice Ab ns cb]:=by rw[←hwb];exact heap_alloc_new w _
 have HI:=Lh (hs0.to hba);have HSS:=Lh (hss.to hba);have HN:=Lh hn;have HNS:=Lh hns;have HG:=Lh hG;have HBA:=Lh hba;have HX0:=Lh hx0;have hnc:n≤c0:=by rw[←hn];exact hs0.1
 have hnc2:c0≤9223372036854775807:=hs0.2.1;have hsc:ns≤cb:=by rw[←hns];exact hss.1
 have hsc2:cb≤9223372036854775807:=hss.2.1;have hns6:ns≤1000:=by omega
 rw[hn,hns];clear hs0 hss hn hns hG hba hx0 hsn;go_enter Tryz.func46,Tryz.ntmps46;go_upto_region 1 with(fail);(try rw[hwb]);clear hwb;go_wp2_with fail;go_loopw [5,6] (fun v5 v6 wr=>∃(k:Nat) (sl:List Seal),v6=.int .i64 k∧k≤n∧k≤6∧Hid (Own wr wb.heap.size 118 v5 sl)∧Hid (sl.length≤k)∧Hid (SlOk sl)∧Hid (Below wb.heap.size wb wr)) (fun _ v6 _=>6-(intOf v6).toNat);(case atStart=>exact⟨0,[],rfl,Nat.zero_le _,Nat.zero_le _,Lh (Own.nil _ _ _),Lh nL,Lh (fun _ h=>nomatch h),Lh bR⟩);case round=>
  obtain⟨k,sl,rfl,hkn,hk6,HO,HLE,HOK,HB⟩:=hrel;have y2:=(HX0.out.to HB.out).cell 2 rfl;go_upto_region 3 with(fail);go_cut [26] from 13 to 26 (fun v26 wx=>v26=.bool (decide (k<n∧k<6∧0<ns))∧wx=wr);case first=>
   by_cases h1:k<n
   ·by_cases h2:k<6
    ·by_cases h3:0<ns
     ·have g1:(k:Int)<(n:Int):=by omega
      have g2:(k:Int)<6:=(by omega);have g3:(0:Int)<(ns:Int):=(by omega);go_wp2_with fail;go_meet;exact⟨by rw[decide_eq_true (⟨h1,h2,h3⟩:k<n∧k<6∧0<ns)],rfl⟩
     ·have g1:(k:Int)<(n:Int):=by omega
      have g2:(k:Int)<6:=(by omega);have g3:¬(0:Int)<(ns:Int):=(by omega);go_wp2_with fail;go_meet;exact⟨by rw[decide_eq_false (fun h=>h3 h.2.2:¬(k<n∧k<6∧0<ns))],rfl⟩
    ·have g1:(k:Int)<(n:Int):=by omega
     have g2:¬(k:Int)<6:=(by omega);go_wp2_with fail;go_meet;exact⟨by rw[decide_eq_false (fun h=>h2 h.2.1:¬(k<n∧k<6∧0<ns))],rfl⟩
   ·have g1:¬(k:Int)<(n:Int):=by omega
    go_wp2_with fail;go_meet;exact⟨by rw[decide_eq_false (fun h=>h1 h.1:¬(k<n∧k<6∧0<ns))],rfl⟩
  case rest=>
   obtain⟨rfl,rfl⟩:=hcut;obtain⟨wr,hwr⟩:∃q:World,q=wc:=⟨_,rfl⟩;subst hwr;by_cases hlt:k<n∧k<6∧0<ns
   ·rw[decide_eq_true hlt];obtain⟨hk,hk6',hns0⟩:=hlt;have hkl:k<l0.length:=(by rw[HN.out];exact hk);obtain⟨b0,o0,hA0,-,hb0,hI0,e0⟩:=Qbr HI.out hkl;subst hA0;obtain⟨a0,ha0⟩:∃a0,l0[k]=a0:=⟨_,rfl⟩;rw[ha0] at hI0 e0;have e1:=(HB.out.cell (p:=⟨b0,o0+k,none⟩) hb0).trans e0;obtain⟨hI1,hI2⟩:=hI0;have hkI:(k:Int)<(n:Int):=(by omega);clear ha0 e0;go_upto_if 34 with(fail);go_cut [7] from 33 to 37 (fun v7 wx=>v7=.int .i64 (if a0<0 then -(a0+1) else a0)∧wx=wr);case first=>
     by_cases hneg:a0<0
     ·go_wp2_with fail;go_meet;exact⟨by rw[if_pos hneg],rfl⟩
     ·go_wp2_with fail;go_meet;exact⟨by rw[if_neg (by omega)],rfl⟩
    case rest=>
     obtain⟨rfl,rfl⟩:=hcut;obtain⟨wr,hwr⟩:∃q:World,q=wc:=⟨_,rfl⟩;subst hwr;have har:=aro_lt a0 1000000 (by decide);have hai:0≤(if a0<0 then -(a0+1) else a0)∧(if a0<0 then -(a0+1) else a0)≤9223372036854775807:=(by split<;>omega);obtain⟨z,hz⟩:∃z,(if a0<0 then -(a0+1) else a0)=z:=⟨_,rfl⟩;have hzr:z%1000000=aro a0 1000000:=(by rw[←hz];rfl);rw[hz] at hai ⊢;obtain⟨hz0,hz1⟩:=hai;clear hz;go_upto_region 9 with(fail);obtain⟨x,hx⟩:∃x,z%1000000=x:=⟨_,rfl⟩;have hx0:0≤x:=(by rw[←hx];exact Int.emod_nonneg _ (by decide));have hx1:x<1000000:=(by rw[←hx];exact Int.emod_lt_of_pos _ (by decide));rw[hx];clear hx hzr har;obtain⟨i,hi⟩:∃i:Nat,x%(ns:Int)=(i:Int):=⟨(x%(ns:Int)).toNat,by have:=Int.emod_nonneg x (show(ns:Int)≠0 by omega);omega⟩;have hin:i<ns:=(by have:=Int.emod_lt_of_pos x (show(0:Int)<(ns:Int) by omega);omega);have hil:i<ss.length:=(by rw[HNS.out];exact hin);obtain⟨bs,os,Ag,cg,An,cn,hAs,-,hbs0,r0,r1,r2,r3,hvS,-,hIE⟩:=QbO HSS.out hil;have hgs:=HG.out _ (List.getElem_mem hil);obtain⟨s,hs⟩:∃s,ss[i]=s:=⟨_,rfl⟩;rw[hs] at r0 r1 r2 r3 hvS hIE hgs;subst hAs;have hbs:bs<wr.heap.size:=Nat.lt_of_lt_of_le hbs0 HB.out.size;have t0:=(HB.out.cell (p:=⟨bs,os+i*4,none⟩) hbs0).trans r0;have t1:=(HB.out.cell (p:=⟨bs,os+i*4+1,none⟩) hbs0).trans r1;have t2:=(HB.out.cell (p:=⟨bs,os+i*4+2,none⟩) hbs0).trans r2;have t3:=(HB.out.cell (p:=⟨bs,os+i*4+3,none⟩) hbs0).trans r3;have HVS:=Lh hvS;have HGS:=Lh hgs;have hinI:(i:Int)<(ns:Int):=(by omega);clear hs r0 r1 r2 r3 hvS hIE hgs;refine Qaf [9] (fun i=>if i=9 then SP.box wr.heap.size #[.int .i64 0,.bool false,.slice none 0 0,.slice none 0 0] 74 else SP.any) 10 (by kernel_rfl) (by kernel_rfl) ?_;intro T _ g hg hgm;have yy:∀d,(g d).cell? ⟨w.heap.size,2,none⟩=some (.slice (some ⟨bs,os,none⟩) ns cb):=fun d=>((HX0.out.to HB.out).to (hg d)).cell 2 rfl
     have s0:∀d,(g d).cell? ⟨bs,os+i*4,none⟩=some (.int .i64 s.entry):=fun d=>((hg d).cell (p:=⟨bs,os+i*4,none⟩) hbs).trans t0
     have s1:∀d,(g d).cell? ⟨bs,os+i*4+1,none⟩=some (.bool s.frozen):=fun d=>((hg d).cell (p:=⟨bs,os+i*4+1,none⟩) hbs).trans t1
     have s2:∀d,(g d).cell? ⟨bs,os+i*4+2,none⟩=some (.slice Ag s.vers.length cg):=fun d=>((hg d).cell (p:=⟨bs,os+i*4+2,none⟩) hbs).trans t2
     have s3:∀d,(g d).cell? ⟨bs,os+i*4+3,none⟩=some (.slice An s.texts.length cn):=fun d=>((hg d).cell (p:=⟨bs,os+i*4+3,none⟩) hbs).trans t3
     clear y2;(repeat(refine Qac (by rfl) fun Kq hq=>?_;go_big_quiet_step (fail);refine wpQuiet_nil (hq _ ?_);clear hq Kq));have HXR:Hid (0≤x∧x<1000000):=Lh ⟨hx0,hx1⟩;clear hi hinI hz0 hz1 hx0 hx1;refine Qah (by rfl) (by rfl) (fun d hG K Q hK=>?_) (fun v d hG hp Kr hr=>?_)
     ·go_simp;exact hK _ _ (bR.alloc nL _) ⟨_,rfl,(hg d).size,by simp,heap_alloc_new _ _⟩
     obtain⟨O,rfl,hO,-⟩:=(show ∃b,v=.pointer (some ⟨b,0,none⟩)∧wr.heap.size≤b∧_ from hp);have HOW:=Lh hO;clear hO;(try clear hp);clear hG;go_frame;refine hr _ ?_;clear hr Kr;refine QaP 1 (by rfl) (by rfl) (fun d hG=>?_);obtain⟨b',hb',-,hbl,hbh⟩:=(show ∃b,Value.pointer (some ⟨O,0,none⟩)=.pointer (some ⟨b,0,none⟩)∧wr.heap.size≤b∧b<(g d).heap.size∧(g d).heap[b]? =some (.cells #[.int .i64 0,.bool false,.slice none 0 0,.slice none 0 0] 74 (0,0)) from hG 9);cases hb';have HXB:Hid (ABox (g d) O 74 [.int .i64 0,.bool false,.slice none 0 0,.slice none 0 0]):=Lh hbh;have HGD:=Lh (hg d);clear hG hg hgm yy s0 s1 s2 s3 hbl hbh t0 t1 t2 t3;generalize g d=w3 at*;clear g;have x0:=HXB.out.cell 0 rfl;have f0:=HXB.out.fz 0;have x1:=((HXB.out.set 0 (.int .i64 s.entry))).cell 1 rfl;have f1:=((HXB.out.set 0 (.int .i64 s.entry))).fz 1;have x2:=(((HXB.out.set 0 (.int .i64 s.entry)).set 1 (.bool s.frozen))).cell 2 rfl;have f2:=(((HXB.out.set 0 (.int .i64 s.entry)).set 1 (.bool s.frozen))).fz 2;have x3:=((((HXB.out.set 0 (.int .i64 s.entry)).set 1 (.bool s.frozen)).set 2 (.slice Ag s.vers.length cg))).cell 3 rfl;have f3:=((((HXB.out.set 0 (.int .i64 s.entry)).set 1 (.bool s.frozen)).set 2 (.slice Ag s.vers.length cg))).fz 3;have HXC:=Lh ((((HXB.out.set 0 (.int .i64 s.entry)).set 1 (.bool s.frozen)).set 2 (.slice Ag s.vers.length cg)).set 3 (.slice An s.texts.length cn));refine Qao (i:=10) (oi:=_) rfl (by kernel_rfl) (by rfl) (fun K hK=>?_);go_simp;refine hK _ _ ?_;clear hK K;(try go_frame);clear x0 x1 x2 x3 f0 f1 f2 f3;refine wpAny_done (by kernel_rfl) ?_ _;unfold Exit.then;obtain⟨w4,hw4⟩:∃w4,((((w3.setCell ⟨O,0,none⟩ (.int .i64 s.entry)).setCell ⟨O,1,none⟩ (.bool s.frozen)).setCell ⟨O,2,none⟩ (.slice Ag s.vers.length cg)).setCell ⟨O,3,none⟩ (.slice An s.texts.length cn))=w4:=⟨_,rfl⟩;have hb4:Below wr.heap.size wr w4:=(by rw[←hw4];exact((((HGD.out.setCell (p:=⟨O,0,none⟩) HOW.out (.int .i64 s.entry)).setCell (p:=⟨O,1,none⟩) HOW.out (.bool s.frozen)).setCell (p:=⟨O,2,none⟩) HOW.out (.slice Ag s.vers.length cg)).setCell (p:=⟨O,3,none⟩) HOW.out (.slice An s.texts.length cn)));have hx4:=HXC.out;rw[hw4] at hx4;rw[hw4];have HX4:=Lh hx4;have HB4:Hid (Below wb.heap.size wb w4):=Lh (HB.out.trans (hb4.mono HB.out.size));have HO4:=Lh (HO.out.below hb4);have hvl:0<s.vers.length:=HGS.out.2.1;have hvl2:s.vers.length≤1000:=HGS.out.2.2.1;obtain⟨nv,hnv⟩:∃nv,s.vers.length=nv:=⟨_,rfl⟩;have HNV:=Lh hnv;rw[hnv] at hvl hvl2;have x2:=HX4.out.cell 2 rfl;rw[hnv] at x2;have hvI:(0:Int)<(nv:Int):=(by omega);have hxa:=HXR.out.1;have hxb:=HXR.out.2;clear hw4 hb4 hx4 hnv HXC HXB HGD;obtain⟨j,hj⟩:∃j:Nat,x/16%(nv:Int)=(j:Int):=⟨(x/16%(nv:Int)).toNat,by have:=Int.emod_nonneg (x/16) (show(nv:Int)≠0 by omega);omega⟩;have hjn:j<nv:=(by have:=Int.emod_lt_of_pos (x/16) hvI;omega);have hjl:j<s.vers.length:=(by rw[HNV.out];exact hjn);obtain⟨bv,ov,hAg,-,hbv,hIv,v0⟩:=Qbr HVS.out hjl;subst hAg;have hyr:=HGS.out.2.2.2 _ (List.getElem_mem hjl);obtain⟨y,hy⟩:∃y,s.vers[j]=y:=⟨_,rfl⟩;rw[hy] at v0 hyr;have v1:=(HB4.out.cell (p:=⟨bv,ov+j,none⟩) hbv).trans v0;have hjI:(j:Int)<(nv:Int):=(by omega);have hq0:0≤x/16:=(by omega);have hq1:x/16≤1000000:=(by omega);have HYR:=Lh hyr;clear hy hyr v0 hIv;go_upto_region 12 with(fail);go_quiet (fail);obtain⟨w5,hw5⟩:∃w5,w4.drewN nq=w5:=⟨_,rfl⟩;have hb5:Below w4.heap.size w4 w5:=(by rw[←hw5];exact Below.dn bR nq);rw[hw5];have HX5:=Lh (HX4.out.to hb5);have HO5:=Lh (HO4.out.below hb5);have HB5:Hid (Below wb.heap.size wb w5):=Lh (HB4.out.trans (hb5.mono HB4.out.size));have x0:=HX5.out.cell 0 rfl;clear hw5 hb5 x2 v1 hj hjI;go_upto_region 15 with(fail);obtain⟨f,hf⟩:∃f,x/64%12=f:=⟨_,rfl⟩;obtain⟨g,hg⟩:∃g,x/768%4=g:=⟨_,rfl⟩;obtain⟨u,hu⟩:∃u,f+1+x/3072%6=u:=⟨_,rfl⟩;have hfr:0≤f∧f<12:=(by rw[←hf];exact⟨Int.emod_nonneg _ (by decide),Int.emod_lt_of_pos _ (by decide)⟩);have hgr:0≤g∧g<4:=(by rw[←hg];exact⟨Int.emod_nonneg _ (by decide),Int.emod_lt_of_pos _ (by decide)⟩);have hur:f+1≤u∧u<f+7:=(by have h1:=Int.emod_nonneg (x/3072) (show(6:Int)≠0 by decide);have h2:=Int.emod_lt_of_pos (x/3072) (show(0:Int)<6 by decide);omega);rw[hf,hu,hg];obtain⟨w6,hw6⟩:∃w6,w5.alloc (.cells #[.int .i64 s.entry,.int .i64 y,.int .i64 f,.int .i64 u,.int .i64 g] 118)=w6:=⟨_,rfl⟩;have hb6:Below w5.heap.size w5 w6:=(by rw[←hw6];exact bR.alloc nL _);have HX6:Hid (ABox w6 w5.heap.size 118 [.int .i64 s.entry,.int .i64 y,.int .i64 f,.int .i64 u,.int .i64 g]):=Lh (by rw[←hw6];exact heap_alloc_new w5 _);have HO6:=Lh (HO5.out.below hb6);have HB6:Hid (Below wb.heap.size wb w6):=Lh (HB5.out.trans (hb6.mono HB5.out.size));rw[hw6];have hse:=HGS.out.1;have hyr:=HYR.out;have HQ:Hid ((⟨s.entry,y,f,u,g⟩:Seal).ok∧0≤g∧g<16):=Lh ⟨⟨show I64 s.entry by unfold I64;omega,show I64 y by unfold I64;omega,show I64 f by unfold I64;omega,show I64 u by unfold I64;omega,show I64 g by unfold I64;omega⟩,by omega,by omega⟩;obtain⟨A5,c5,hv5,-⟩:=HO6.out.form;subst hv5;obtain⟨A6,c6,e6,hs6⟩:=HO6.out.sl;cases e6;have HAD:=Lh (radd_any A5 c5 sl.length sl ⟨s.entry,y,f,u,g⟩ w6 hs6 rfl HQ.out.1);obtain⟨er,her⟩:∃er,(saddE sl (⟨s.entry,y,f,u,g⟩:Seal)).2=er:=⟨_,rfl⟩;have HER:=Lh her;rw[her] at HAD;have x0:=HX6.out.cell 0 rfl;have x1:=HX6.out.cell 1 rfl;have x2:=HX6.out.cell 2 rfl;have x3:=HX6.out.cell 3 rfl;have x4:=HX6.out.cell 4 rfl;have HLE6:=Lh HLE.out;clear hf hg hu hfr hgr hur hw6 hb6 hs6 her hse hyr hxa hxb hq0 hq1 hvI hvl hvl2 hjn hjl hbv;by_cases he:er=0
     ·subst he
      go_wp2_with (first|(go_at_call 95;refine HAD.out.mono ?_;rintro r w7 ⟨v7,rfl,ho7,hb7⟩;have HO7:=Lh ho7;have HB7:Hid (Below wb.heap.size wb w7):=Lh (HB6.out.trans (hb7.mono HB6.out.size));have HZ6:=Lh HB6.out.size;clear ho7 hb7 x0 x1 x2 x3 x4)|fail)
      go_roundw
      case rel=>exact⟨k+1,sl++[⟨s.entry,y,f,u,g⟩],by go_num,by omega,by omega,Lh (by have:=HO7.out;rw[saddE_zero HER.out] at this;exact this.re HZ6.out),Lh (by have:=HLE6.out;rw[qA,List.length_singleton];omega),Lh (fun q hq=>by
       rcases List.mem_append.1 hq with h1|h1
       ·exact HOK.out q h1
       ·rw[List.mem_singleton] at h1
        subst h1
        exact HQ.out),HB7⟩
      case measure=>(first|(simp[intOf];done)|(simp[intOf];omega))
     ·have he2:(er==0)=false:=beq_eq_false_iff_ne.2 he
      go_wp2_with (first|(go_at_call 95;refine HAD.out.mono ?_;rintro r w7 ⟨v7,rfl,ho7,hb7⟩;have HO7:=Lh (HO6.out.below hb7);have HB7:Hid (Below wb.heap.size wb w7):=Lh (HB6.out.trans (hb7.mono HB6.out.size));clear ho7 hb7 x0 x1 x2 x3 x4)|fail)
      go_roundw;(case rel=>exact⟨k+1,sl,by go_num,by omega,by omega,HO7,Lh (by have:=HLE6.out;omega),HOK,HB7⟩);case measure=>(first|(simp[intOf];done)|(simp[intOf];omega))
   ·rw[decide_eq_false hlt];go_wp2_with fail;go_ret;exact⟨_,sl,rfl,HO.out.re HBA.out.size,by have:=HLE.out;omega,HOK.out,HBA.out.trans (HB.out.mono HBA.out.size)⟩
theorem GBk.good {m h:Int}{l:List SectP}(H:GBk m h l):GoodB m h l:=chkE_good H.noerr
theorem GoodB.sgood {m h:Int}{l:List SectP}(H:GoodB m h l):∀s∈l,SGood s:=fun s hs=>by
 have g:=H.s s hs;exact⟨g.e,by have:=g.n;omega,by have:=g.lim;omega,g.r⟩
def grpI (n:Int):Int:=if aro n 17=16 then 65535 else aro n 17
set_option maxRecDepth 100000 in
theorem lmade_any (A0:Option Addr)(c0:Nat)(l0:List Int)(A1:Option Addr)(c1:Nat)(l1:List Int)(x:Int)(w:World)(h0:Sl w (fun b=>b<w.heap.size) A0 c0 l0)(h1:Sl w (fun b=>b<w.heap.size) A1 c1 l1)(hx:I64 x):
 Calls Tryz.prog 13 #[.slice A0 l0.length c0,.slice A1 l1.length c1,.int .i64 x] w fun r W'=>∃m h Ab cb ss As cs sl,r=.returned (.tuple #[.agg #[.int .i64 m,.int .i64 h,.slice Ab ss.length cb],.slice As sl.length cs,.int .i64 (grpI x)])∧GBk m h ss∧Sl W' (fun b=>w.heap.size≤b∧b<W'.heap.size) Ab cb ss∧Sl W' (fun b=>b<W'.heap.size) As cs sl∧sl.length≤6∧SlOk sl∧Below w.heap.size w W':=by
 obtain⟨n0,hn0⟩:∃n,l0.length=n:=⟨_,rfl⟩;obtain⟨n1,hn1⟩:∃n,l1.length=n:=⟨_,rfl⟩;obtain⟨wb,hwb⟩:∃wb,w.alloc (.cells #[.int .i64 0,.int .i64 0,.slice none 0 0] 25)=wb:=⟨_,rfl⟩;have hba:Below w.heap.size w wb:=by rw[←hwb];exact bR.alloc nL _
 have hx0:ABox wb w.heap.size 25 [.int .i64 0,.int .i64 0,.slice none 0 0]:=by rw[←hwb];exact heap_alloc_new w _
 have HBK:=Lh (gbook_any A0 c0 l0 wb (h0.to hba));have HI1:=Lh (h1.to hba);have HIX:=Lh hx;have HBA:=Lh hba;have HX0:=Lh hx0;have HN1:=Lh hn1;rw[hn0] at HBK ⊢;rw[hn1];clear h0 h1 hx hba hx0 hn0 hn1;go_enter Tryz.func13,Tryz.ntmps13;go_upto_region 1 with(fail);(try rw[hwb]);clear hwb
 go_upto_region 2 with(first|(go_at_call 45;refine HBK.out.mono ?_;rintro e V1 ⟨m,h,Ab1,cb1,ss,rfl,hg,hs,hb⟩;have HG:=Lh hg;have HB1:=Lh hb;have HS1:=Lh hs;clear hg hs hb)|fail)
 obtain⟨W2,hW⟩:∃W2,V1.alloc (.cells #[.int .i64 m,.int .i64 h,.slice Ab1 ss.length cb1] 25)=W2:=⟨_,rfl⟩;obtain⟨b1,hbk⟩:∃b1,V1.heap.size=b1:=⟨_,rfl⟩;have hb2:Below V1.heap.size V1 W2:=by rw[←hW];exact bR.alloc nL _
 have HX2:Hid (ABox W2 b1 25 [.int .i64 m,.int .i64 h,.slice Ab1 ss.length cb1]):=Lh (by rw[←hW,←hbk];exact heap_alloc_new V1 _);have HB2:Hid (Below wb.heap.size wb W2):=Lh (HB1.out.trans (hb2.mono HB1.out.size));have HS2:Hid (Sl W2 (fun b=>wb.heap.size≤b∧b<W2.heap.size) Ab1 cb1 ss):=Lh ((HS1.out.keep (fun i hi hl=>hb2.block i hl) hb2.size).mono (fun i hi hl=>⟨hi.1,hl⟩));have HNB:Hid (b1≠w.heap.size):=Lh (by rw[←hbk];have:=HB1.out.size;have:=HX0.out.lt;omega);rw[hW,hbk];clear hW hbk hb2 HS1 HB1
 go_upto_if 16 with(first|(go_at_call 39;refine(around_any x 17 W2 HIX.out (by decide) (by decide)).mono ?_;rintro e Wz ⟨rfl,rfl⟩)|fail)
 obtain⟨z,hz⟩:∃z,aro x 17=z:=⟨_,rfl⟩;have HZ:Hid (grpI x=if z=16 then 65535 else z):=Lh (by unfold grpI;rw[hz]);rw[hz];clear hz;go_cut [10] from 15 to 16 (fun v wx=>v=.int .i64 (grpI x)∧wx=W2);case first=>
  by_cases h16:z=16
  ·have h17:(z==16)=true:=beq_iff_eq.2 h16;go_wp2_with fail;go_meet;exact⟨by rw[HZ.out,if_pos h16],rfl⟩
  ·have h17:(z==16)=false:=beq_eq_false_iff_ne.2 h16;go_wp2_with fail;go_meet;exact⟨by rw[HZ.out,if_neg h16],rfl⟩
 case rest=>
  obtain⟨rfl,rfl⟩:=hcut;obtain⟨W2,hwr⟩:∃q:World,q=wc:=⟨_,rfl⟩;subst hwr;have HSE:=Lh (fun(W:World) (hW:Below W2.heap.size W2 W)=>rseals_any A1 c1 l1 m h Ab1 cb1 ss W (HI1.out.to (HB2.out.trans (hW.mono HB2.out.size))) (((HS2.out.keep (fun i hi hl=>hW.block i hl) hW.size).mono (fun i hi hl=>hl))) HG.out.good.sgood (by have:=HG.out.n;omega));rw[HN1.out] at HSE;go_upto_region 5 with(fail);refine Qav (fun W=>W.cell? ⟨b1,0,none⟩=some (.int .i64 m)∧W.cell? ⟨b1,1,none⟩=some (.int .i64 h)∧W.cell? ⟨b1,2,none⟩=some (.slice Ab1 ss.length cb1)) (fun _=>true) (by kernel_rfl) ?_;obtain⟨V0,hV0⟩:∃V0,W2.drew=V0:=⟨_,rfl⟩;have hbd:Below W2.heap.size W2 V0:=(by rw[←hV0];exact bR.drew);have HB0:=Lh hbd;rw[hV0];clear hV0 hbd;have hS0:V0.cell? ⟨b1,0,none⟩=some (.int .i64 m)∧V0.cell? ⟨b1,1,none⟩=some (.int .i64 h)∧V0.cell? ⟨b1,2,none⟩=some (.slice Ab1 ss.length cb1):=⟨(HX2.out.to HB0.out).cell 0 rfl,(HX2.out.to HB0.out).cell 1 rfl,(HX2.out.to HB0.out).cell 2 rfl⟩;refine tE 0 ⟨some 17,Op.load 25 (.tmp 9),25,_,_,_⟩ ?_ rfl ?zq0 (hS0) ?zq1;(case zq0=>intro wS hSw;have q0:=hSw.1;have q1:=hSw.2.1;have q2:=hSw.2.2;clear hSw;go_simp;(try with_reducible rfl));(all_goals try go_frame);refine tE 1 ⟨some 18,Op.move (.tmp 1),22,_,_,_⟩ ?_ rfl ?zq2 (hS0) ?zq3;(case zq2=>intro _ s;clear s;go_simp;(try with_reducible rfl));(all_goals try go_frame);refine tE 2 ⟨some 19,Op.load 25 (.tmp 9),25,_,_,_⟩ ?_ rfl ?zq4 (hS0) ?zq5;(case zq4=>intro wS hSw;have q0:=hSw.1;have q1:=hSw.2.1;have q2:=hSw.2.2;clear hSw;go_simp;(try with_reducible rfl));(all_goals try go_frame);refine tE 4 ⟨some 21,Op.move (.tmp 10),3,_,_,_⟩ ?_ rfl ?zq6 (hS0) ?zq7;(case zq6=>intro _ s;clear s;go_simp;(try with_reducible rfl));(all_goals try go_frame);refine QbC (i:=3) (oi:=_) rfl (by kernel_rfl) (by rfl) (fun K hK=>?_);go_simp;go_at_call 46;refine(HSE.out V0 HB0.out).mono ?_;rintro e V3 ⟨v1,sl,rfl,ho,hle,hok,hb1⟩;obtain⟨As,cs,rfl,hs⟩:=ho.sl
  have HSLS:Hid (Sl V3 (fun b=>b≠w.heap.size) As cs sl):=Lh (by
   obtain⟨A,c,e1,h1,-⟩:=ho.form
   cases e1
   refine⟨hs.1,hs.2.1,fun hn=>?_⟩
   obtain⟨bb,oo,hA,-,hlt,hx⟩:=hs.2.2 hn
   exact⟨bb,oo,hA,by have h2:V0.heap.size≤bb:=(h1 _ hA).1;have h3:=HB0.out.size;have h4:=HB2.out.size;have h5:=HX0.out.lt;show bb≠w.heap.size;omega,hlt,fun i hi=>hx i hi⟩)
  have HLE:=Lh hle;have HOK:=Lh hok;have HB3:=Lh (HB0.out.trans (hb1.mono HB0.out.size));have hS3:V3.cell? ⟨b1,0,none⟩=some (.int .i64 m)∧V3.cell? ⟨b1,1,none⟩=some (.int .i64 h)∧V3.cell? ⟨b1,2,none⟩=some (.slice Ab1 ss.length cb1):=⟨(HX2.out.to HB3.out).cell 0 rfl,(HX2.out.to HB3.out).cell 1 rfl,(HX2.out.to HB3.out).cell 2 rfl⟩;clear ho hle hok hb1 hs;go_simp;refine hK _ _ (fun _=>?_) ?_
  ·exact hS3
  clear hK K;(try go_frame);have HXw:=Lh (HX0.out.to (HB2.out.trans (HB3.out.mono HB2.out.size)));refine QbC (i:=5) (oi:=_) rfl (by kernel_rfl) (by rfl) (fun K hK=>?_);have r0:=HXw.out.cell 0 rfl;have r1:=HXw.out.cell 1 rfl;have r2:=HXw.out.cell 2 rfl;have f0:=HXw.out.fz 0;have f1:=HXw.out.fz 1;have f2:=HXw.out.fz 2;have hS4:(((V3.setCell ⟨w.heap.size,0,none⟩ (.int .i64 m)).setCell ⟨w.heap.size,1,none⟩ (.int .i64 h)).setCell ⟨w.heap.size,2,none⟩ (.slice Ab1 ss.length cb1)).cell? ⟨b1,0,none⟩=some (.int .i64 m)∧(((V3.setCell ⟨w.heap.size,0,none⟩ (.int .i64 m)).setCell ⟨w.heap.size,1,none⟩ (.int .i64 h)).setCell ⟨w.heap.size,2,none⟩ (.slice Ab1 ss.length cb1)).cell? ⟨b1,1,none⟩=some (.int .i64 h)∧(((V3.setCell ⟨w.heap.size,0,none⟩ (.int .i64 m)).setCell ⟨w.heap.size,1,none⟩ (.int .i64 h)).setCell ⟨w.heap.size,2,none⟩ (.slice Ab1 ss.length cb1)).cell? ⟨b1,2,none⟩=some (.slice Ab1 ss.length cb1):=by
   have e4:∀q,(((V3.setCell ⟨w.heap.size,0,none⟩ (.int .i64 m)).setCell ⟨w.heap.size,1,none⟩ (.int .i64 h)).setCell ⟨w.heap.size,2,none⟩ (.slice Ab1 ss.length cb1)).cell? ⟨b1,q,none⟩=V3.cell? ⟨b1,q,none⟩:=fun q=>by
    unfold World.cell?;rw[Qaa _ _ _ _ HNB.out,Qaa _ _ _ _ HNB.out,Qaa _ _ _ _ HNB.out]
   exact⟨(e4 0).trans hS3.1,(e4 1).trans hS3.2.1,(e4 2).trans hS3.2.2⟩
  go_simp;refine hK _ _ (fun _=>?_) ?_
  ·exact hS4
  clear hK K;clear r0 r1 r2 f0 f1 f2;have hoth:∀i,i≠w.heap.size→(((V3.setCell ⟨w.heap.size,0,none⟩ (.int .i64 m)).setCell ⟨w.heap.size,1,none⟩ (.int .i64 h)).setCell ⟨w.heap.size,2,none⟩ (.slice Ab1 ss.length cb1)).heap[i]? =V3.heap[i]? :=fun i hi=>by rw[Qaa _ _ _ _ hi,Qaa _ _ _ _ hi,Qaa _ _ _ _ hi]
  have hzz:(((V3.setCell ⟨w.heap.size,0,none⟩ (.int .i64 m)).setCell ⟨w.heap.size,1,none⟩ (.int .i64 h)).setCell ⟨w.heap.size,2,none⟩ (.slice Ab1 ss.length cb1)).heap.size=V3.heap.size:=(by simp);have HXF:=Lh (((HXw.out.set 0 (.int .i64 m)).set 1 (.int .i64 h)).set 2 (.slice Ab1 ss.length cb1));have HSF:Hid (Sl (((V3.setCell ⟨w.heap.size,0,none⟩ (.int .i64 m)).setCell ⟨w.heap.size,1,none⟩ (.int .i64 h)).setCell ⟨w.heap.size,2,none⟩ (.slice Ab1 ss.length cb1)) (fun b=>b<(((V3.setCell ⟨w.heap.size,0,none⟩ (.int .i64 m)).setCell ⟨w.heap.size,1,none⟩ (.int .i64 h)).setCell ⟨w.heap.size,2,none⟩ (.slice Ab1 ss.length cb1)).heap.size) As cs sl):=Lh ((HSLS.out.keep (fun i hi _=>hoth i hi) (by rw[hzz];exact Nat.le_refl _)).mono (fun i _ hl=>hl));have HBF:Hid (Sl (((V3.setCell ⟨w.heap.size,0,none⟩ (.int .i64 m)).setCell ⟨w.heap.size,1,none⟩ (.int .i64 h)).setCell ⟨w.heap.size,2,none⟩ (.slice Ab1 ss.length cb1)) (fun b=>w.heap.size≤b∧b<(((V3.setCell ⟨w.heap.size,0,none⟩ (.int .i64 m)).setCell ⟨w.heap.size,1,none⟩ (.int .i64 h)).setCell ⟨w.heap.size,2,none⟩ (.slice Ab1 ss.length cb1)).heap.size) Ab1 cb1 ss):=Lh ((HS2.out.keep (fun i hi hl=>(hoth i (by have:=hi.1;have:=HX0.out.lt;omega)).trans (HB3.out.block i hl)) (by rw[hzz];exact HB3.out.size)).mono (fun i hi hl=>⟨by have:=hi.1;have:=HBA.out.size;omega,hl⟩));have hbelow:Below w.heap.size w (((V3.setCell ⟨w.heap.size,0,none⟩ (.int .i64 m)).setCell ⟨w.heap.size,1,none⟩ (.int .i64 h)).setCell ⟨w.heap.size,2,none⟩ (.slice Ab1 ss.length cb1)):=(((HBA.out.trans ((HB2.out.trans (HB3.out.mono HB2.out.size)).mono HBA.out.size)).setCell (p:=⟨w.heap.size,0,none⟩) nL _).setCell (p:=⟨w.heap.size,1,none⟩) nL _).setCell (p:=⟨w.heap.size,2,none⟩) nL _;have HBW:=Lh hbelow;(try go_frame);obtain⟨w4,hw4⟩:∃w4,((V3.setCell ⟨w.heap.size,0,none⟩ (.int .i64 m)).setCell ⟨w.heap.size,1,none⟩ (.int .i64 h)).setCell ⟨w.heap.size,2,none⟩ (.slice Ab1 ss.length cb1)=w4:=⟨_,rfl⟩;rw[hw4];rw[hw4] at HXF HSF HBF HBW hS4;clear hw4 hoth hzz hbelow;refine QbC (i:=6) (oi:=_) rfl (by kernel_rfl) (by rfl) (fun K hK=>?_);go_simp;refine hK _ _ (fun _=>?_) ?_
  ·exact hS4
  clear hK K;(try go_frame);refine QbC (i:=7) (oi:=_) rfl (by kernel_rfl) (by rfl) (fun K hK=>?_);go_simp;refine hK _ _ (fun _=>?_) ?_
  ·exact hS4
  clear hK K;(try go_frame);refine Qap (by kernel_rfl) ?_ _;unfold Exit.then;go_wp2_with fail;refine bodyPost_ret (v:=.tuple #[.agg #[.int .i64 m,.int .i64 h,.slice Ab1 ss.length cb1],.slice As sl.length cs,.int .i64 (grpI x)]) (Qdg Tryz.results13 _ _ w.heap.size _ #[.int .i64 m,.int .i64 h,.slice Ab1 ss.length cb1] (0,0) _ rfl HXF.out Tryz.underlying25 rfl (by kernel_rfl)) rfl ⟨m,h,Ab1,cb1,ss,As,cs,sl,rfl,HG.out,HBF.out,HSF.out,HLE.out,HOK.out,HBW.out⟩
def lw (s:List UInt8):Word:=⟨⟨s.toArray⟩,⟨#[]⟩,0,0⟩
def lxW:List Word:=[lw [111,110,101],lw [116,119,111],lw [116,104,114,101,101],lw [102,111,117,114]]
def lxT:TextP:=⟨[lxW],[]⟩
def lx:List SectP:=[⟨5,false,[7],[lxT]⟩]
def lxL:LineP:=⟨0,4,[6,6,6],[]⟩
def lxP:PageP:=⟨1,0,5,7,[lxL],[]⟩
def lxS:List Seal:=[⟨5,7,1,3,3⟩]
def lxM:List Seal:=[⟨5,7,1,3,3⟩,⟨5,7,2,3,2⟩]
theorem lx_chk:chkE 500 10 lx=0:=by decide +kernel
theorem lx_good:GoodB 500 10 lx:=chkE_good lx_chk
theorem Qds:Qae 500 10 lx=[lxP]:=by decide +kernel
theorem lx_wrong:Qa5 500 10 [lxW] []=0:=by decide +kernel
theorem lx_ok:(Qbe []∧WfS [])∧Qbe lx∧WfS lx:=by decide +kernel
theorem lx_find:Qa6 [] 5= -1:=by decide +kernel
theorem lx_len:(Qae 500 10 lx).length≤100:=by decide +kernel
theorem lx_box:box (Qaq ⟨#[116,119,111]⟩)=⟨#[91,50,54,93]⟩∧box (Qaq ⟨#[116,104,114,101,101]⟩)=⟨#[91,51,54,93]⟩:=by decide +kernel
theorem lx_sheet:Qb4 lxS lxP lxW=⟨⟨#[49]⟩,[⟨#[111,110,101,32,91,50,54,93,32,91,51,54,93,32,102,111,117,114]⟩],[]⟩:=by
 have h1:labS lxP=⟨#[49]⟩:=by decide +kernel
 have h2:lxP.body.map (Qa4 lxS 0 lxP.entry lxP.ver lxW)=[⟨#[111,110,101,32,91,50,54,93,32,91,51,54,93,32,102,111,117,114]⟩]:=by decide +kernel
 unfold Qb4;rw[h1,h2];rfl
theorem lx_text:QaC lx lxP=lxT:=rfl
theorem lx_words:QaF lxT=lxW:=rfl
theorem lx_sheets:QaU 500 10 lx lxS=[⟨⟨#[49]⟩,[⟨#[111,110,101,32,91,50,54,93,32,91,51,54,93,32,102,111,117,114]⟩],[]⟩]:=by
 unfold QaU;rw[Qds,List.map_cons,List.map_nil,lx_text,lx_words,lx_sheet]
theorem lx_mark:QbQ lxS 8 2 lxP lxW=[⟨2,1,0,1,⟨#[116,119,111,32,116,104,114,101,101]⟩⟩]∧QbQ lxS 4 2 lxP lxW=[]:=by decide +kernel
theorem lx_annex:QaQ 500 10 lx lxS 8 2=[⟨2,1,0,1,⟨#[116,119,111,32,116,104,114,101,101]⟩⟩]:=by
 unfold QaQ QaR;rw[Qds,List.flatMap_cons,List.flatMap_nil,lx_text,lx_words,lx_mark.1];rfl
theorem lx_annex0:QaQ 500 10 lx lxS 4 2=[]:=by
 unfold QaQ QaR;rw[Qds,List.flatMap_cons,List.flatMap_nil,lx_text,lx_words,lx_mark.2];rfl
theorem lx_line:Qbg (Qax lxM 8 5 7 lxW 0 4)=⟨#[111,110,101,32,116,119,111,32,91,51,54,93,32,102,111,117,114]⟩:=by decide +kernel
theorem lx_sl {w:World}{b0 b1:Nat}(h0:ABox w b0 66 [.string ⟨#[111,110,101]⟩,.string ⟨#[]⟩,.int .i64 0,.int .i64 0,.string ⟨#[116,119,111]⟩,.string ⟨#[]⟩,.int .i64 0,.int .i64 0,.string ⟨#[116,104,114,101,101]⟩,.string ⟨#[]⟩,.int .i64 0,.int .i64 0,.string ⟨#[102,111,117,114]⟩,.string ⟨#[]⟩,.int .i64 0,.int .i64 0]) (h1:ABox w b1 110 [.slice (some ⟨b0,0,none⟩) 4 4]):Sl w (fun b=>b<w.heap.size) (some ⟨b1,0,none⟩) 1 [lxW]:=by
 have hok:∀x∈lxW,x.ok:=by
  intro x hx;simp only[lxW,List.mem_cons,List.not_mem_nil,or_false] at hx;rcases hx with rfl|rfl|rfl|rfl<;>(refine⟨?_,?_,?_,?_⟩<;>first|decide|exact⟨by decide,by decide⟩)
 refine Sl.block (l:=[lxW]) h1 h1.lt (by simp[maxLen]) (fun i hi=>?_);obtain rfl:i=0:=by simpa using hi
 refine⟨some ⟨b0,0,none⟩,4,rfl,?_,show 4<9223372036854775808 by decide⟩;refine Sl.block (l:=lxW) h0 h0.lt (by decide) (fun i hi=>?_);have h4:i=0∨i=1∨i=2∨i=3:=by have:i<4:=hi;omega
 rcases h4 with rfl|rfl|rfl|rfl<;>exact⟨rfl,hok _ (List.getElem_mem hi)⟩
section
variable {P:Program} {ops:Array Oper} {md:Region.Mode} {C:World→Prop} {m:Nat}
end
end Go.Proofs.YtegaapiocihcpaaGreatDoor
