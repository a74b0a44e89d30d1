/- Texts of VwCCm. -/
import Derived.Test.YtegaapiocihcpaaGreatDoorVZf9
set_option maxHeartbeats 16000000
namespace Go.Proofs.YtegaapiocihcpaaGreatDoor
open Go.RowKit
theorem lxS_sl {w:World}{b:Nat}(h:ABox w b 118 [.int .i64 5,.int .i64 7,.int .i64 1,.int .i64 3,.int .i64 3]){S:Nat→Prop}(hS:S b):Sl w S (some ⟨b,0,none⟩) 1 lxS:=
 Sl.block (l:=lxS) h hS (by decide) (fun i hi=>by
  obtain rfl:i=0:=by simpa[lxS] using hi
  exact⟨rfl,show(⟨5,7,1,3,3⟩:Seal).ok from by refine⟨?_,?_,?_,?_,?_⟩<;>exact⟨by decide,by decide⟩⟩)
theorem lxN_sl {w:World}{b:Nat}(h:ABox w b 118 [.int .i64 5,.int .i64 7,.int .i64 2,.int .i64 3,.int .i64 2]){S:Nat→Prop}(hS:S b):Sl w S (some ⟨b,0,none⟩) 1 [(⟨5,7,2,3,2⟩:Seal)]:=
 Sl.block (l:=[(⟨5,7,2,3,2⟩:Seal)]) h hS (by decide) (fun i hi=>by
  obtain rfl:i=0:=by simpa using hi
  exact⟨rfl,show(⟨5,7,2,3,2⟩:Seal).ok from by refine⟨?_,?_,?_,?_,?_⟩<;>exact⟨by decide,by decide⟩⟩)
structure LvI (W1 w:World)(b0 bb:Nat)(Ab:Option Addr)(cb:Nat):Prop where
 b:Below W1.heap.size W1 w
 tx:ABox w (b0+1+1) 36 [.slice (some ⟨b0+1,0,none⟩) 1 1,.slice none 0 0]
 ts:Sl w (fun b=>b<w.heap.size) (some ⟨b0+1,0,none⟩) 1 [lxW]
 bx:ABox w bb 25 [.int .i64 500,.int .i64 10,.slice Ab lx.length cb]
 sm:SM w Ab cb lx
theorem LvI.to {W1 w w':World}{b0 bb:Nat}{Ab:Option Addr}{cb:Nat}(h:LvI W1 w b0 bb Ab cb)(hb:Below w.heap.size w w'):LvI W1 w' b0 bb Ab cb:=⟨h.b.trans (hb.mono h.b.size),h.tx.to hb,h.ts.to hb,h.bx.to hb,h.sm.to hb⟩
theorem LvI.ok {W1 w:World}{b0 bb:Nat}{Ab:Option Addr}{cb:Nat}(h:LvI W1 w b0 bb Ab cb):BookOk w 500 10 Ab cb lx:=⟨h.sm.t.1,h.sm.s,lx_ok.2.1,lx_ok.2.2,⟨by decide,by decide⟩,Nat.le_trans lx_len (by decide)⟩
theorem lx_heq:∀s∈lx,s.texts.length=s.vers.length:=by decide
theorem lxS_g:∀s∈lxS,0≤s.g∧s.g<16:=by decide
theorem lxM_g:∀s∈lxM,0≤s.g∧s.g<16:=by decide
theorem ok_lxW:∀x∈Qau ⟨[lxW],[]⟩,x.s.size≤1000:=by decide
theorem lx_short:Qbr [lxW]∧Qbr []:=by decide +kernel
theorem lx_add {w:World}{A1:Option Addr}(hT:Tabs w)(ht:Sl w (fun b=>b<w.heap.size) A1 1 [lxW]):
 Calls Tryz.prog 61 #[.agg #[.int .i64 500,.int .i64 10,.slice none 0 0],.int .i64 5,.int .i64 7,.agg #[.slice A1 1 1,.slice none 0 0]] w fun e w'=>∃A c,e=.returned (.tuple #[.agg #[.int .i64 500,.int .i64 10,.slice A lx.length c],.int .i64 0])∧SM w' A c lx∧Below w.heap.size w w':=by
 have e1:([]++[(⟨5,false,[7],[⟨[lxW],[]⟩]⟩:SectP)])=lx:=rfl;have h:=add_ok none 0 [] 500 10 5 7 A1 none 1 0 [lxW] [] w hT.1 (Sl.nil _ _ _ _ (by simp[maxLen])) lx_ok.1.1 lx_ok.1.2 ⟨by decide,by decide⟩ ht (Sl.nil _ _ _ _ (by simp[maxLen])) lx_short.1 lx_short.2 lx_find (by decide) (by decide) lx_wrong (by decide) (by rw[e1];exact Nat.le_trans lx_len (by decide));rw[e1] at h;refine h.mono ?_;rintro x V2 ⟨u,rfl,ho,hb⟩;obtain⟨Ab,cb,rfl,hs,-⟩:=ho.sm hT hb;exact⟨Ab,cb,by rw[fits_ok (Nat.le_trans lx_len (by decide))],hs,hb⟩
set_option maxRecDepth 100000 in
theorem lives32_any (W1:World)(hT:Tabs W1):Calls Tryz.prog 20 #[] W1 fun e w'=>e=.returned (.bool true)∧Below W1.heap.size W1 w':=by
 have HT:=Lh hT;clear hT;go_enter Tryz.func20,Tryz.ntmps20;go_upto_region 2 with(fail);obtain⟨b0,hb0⟩:∃q,W1.heap.size=q:=⟨_,rfl⟩;obtain⟨W2,hW2⟩:∃W2,((W1.alloc (.cells #[.string ⟨#[111,110,101]⟩,.string ⟨#[]⟩,.int .i64 0,.int .i64 0,.string ⟨#[116,119,111]⟩,.string ⟨#[]⟩,.int .i64 0,.int .i64 0,.string ⟨#[116,104,114,101,101]⟩,.string ⟨#[]⟩,.int .i64 0,.int .i64 0,.string ⟨#[102,111,117,114]⟩,.string ⟨#[]⟩,.int .i64 0,.int .i64 0] 66)).alloc (.cells #[.slice (some ⟨W1.heap.size,0,none⟩) 4 4] 110)).alloc (.cells #[.slice (some ⟨W1.heap.size+1,0,none⟩) 1 1,.slice none 0 0] 36)=W2:=⟨_,rfl⟩;rw[hW2];have hba:Below W1.heap.size W1 W2:=by rw[←hW2];exact((bR.alloc nL _).alloc (by simp) _).alloc (by simp;omega) _
 have hx0:ABox W2 W1.heap.size 66 [.string ⟨#[111,110,101]⟩,.string ⟨#[]⟩,.int .i64 0,.int .i64 0,.string ⟨#[116,119,111]⟩,.string ⟨#[]⟩,.int .i64 0,.int .i64 0,.string ⟨#[116,104,114,101,101]⟩,.string ⟨#[]⟩,.int .i64 0,.int .i64 0,.string ⟨#[102,111,117,114]⟩,.string ⟨#[]⟩,.int .i64 0,.int .i64 0]:=by rw[←hW2];exact(Below.heap_alloc _ _ _ (by first|(simp;done)|(simp;omega))).trans ((Below.heap_alloc _ _ _ (by simp)).trans (heap_alloc_new W1 _))
 have hx1:ABox W2 (W1.heap.size+1) 110 [.slice (some ⟨W1.heap.size,0,none⟩) 4 4]:=by rw[←hW2];exact(Below.heap_alloc _ _ _ (by simp)).trans (Qar (by simp))
 have hx2:ABox W2 (W1.heap.size+1+1) 36 [.slice (some ⟨W1.heap.size+1,0,none⟩) 1 1,.slice none 0 0]:=by rw[←hW2];exact Qar (by simp)
 have hts:=lx_sl hx0 hx1;rw[hb0] at hts hx2 ⊢;have HBA:=Lh hba;have HTX:=Lh hx2;have HTS:=Lh hts;have HT2:=Lh (HT.out.to hba);clear hW2 hba hx0 hx1 hx2 hts hb0;have y0:=HTX.out.cell 0 rfl;have y1:=HTX.out.cell 1 rfl;have HAD:=Lh (lx_add HT2.out HTS.out)
 go_upto_region 3 with(first|(go_at_call 61;refine HAD.out.mono ?_;rintro x V2 ⟨Ab,cb,rfl,hs,hb⟩;have HSM:=Lh hs;have HB2:=Lh hb;clear hs hb y0 y1 HAD)|fail)
 obtain⟨W3,hW3⟩:∃W3,V2.alloc (.cells #[.int .i64 500,.int .i64 10,.slice Ab lx.length cb] 25)=W3:=⟨_,rfl⟩;obtain⟨bb,hbb⟩:∃q,V2.heap.size=q:=⟨_,rfl⟩
 have HI:Hid (LvI W1 W3 b0 bb Ab cb):=Lh (by
  have h1:Below V2.heap.size V2 W3:=(by rw[←hW3];exact bR.alloc nL _)
  have h2:Below W2.heap.size W2 W3:=HB2.out.trans (h1.mono HB2.out.size)
  exact⟨HBA.out.trans (h2.mono HBA.out.size),HTX.out.to h2,HTS.out.to h2,by rw[←hW3,←hbb];exact heap_alloc_new V2 _,HSM.out.to h1⟩)
 (try rw[hW3]);(try rw[hbb]);clear hW3 hbb HBA HTX HTS HT2 HSM HB2;have q0:=HI.out.bx.cell 0 rfl;have q1:=HI.out.bx.cell 1 rfl;have q2:=HI.out.bx.cell 2 rfl
 go_upto_region 4 with(first|(go_at_call 26;refine(Qb4 HI.out.ok).mono ?_;rintro e W4 ⟨v,R,rfl,ho,-,hb⟩;rw[Qdf] at ho;obtain⟨Ap,cp,rfl,hs⟩:=ho.plain.sl;have HP4:=Lh hs;have HI4:=Lh (HI.out.to hb);clear ho hs hb q0 q1 q2 HI)|fail)
 go_upto_region 5 with(fail);obtain⟨W5,hW5⟩:∃W5,W4.alloc (.cells #[.int .i64 5,.int .i64 7,.int .i64 1,.int .i64 3,.int .i64 3] 118)=W5:=⟨_,rfl⟩;obtain⟨bs,hbs⟩:∃q,W4.heap.size=q:=⟨_,rfl⟩;have h1:Below W4.heap.size W4 W5:=by rw[←hW5];exact bR.alloc nL _
 have HI5:=Lh (HI4.out.to h1);have HP5:=Lh (HP4.out.to h1);have HX5:Hid (ABox W5 bs 118 [.int .i64 5,.int .i64 7,.int .i64 1,.int .i64 3,.int .i64 3]):=Lh (by rw[←hW5,←hbs];exact heap_alloc_new W4 _);rw[hW5,hbs];clear hW5 hbs h1 HI4 HP4;have HOW0:Hid (Own (W5.alloc (.cells #[] 118)) W5.heap.size 118 (.slice (some ⟨W5.heap.size,0,none⟩) 0 0) ([]:List Seal)):=Lh (Own.made W5 W5.heap.size _ nL);have HB50:Hid (Below W5.heap.size W5 (W5.alloc (.cells #[] 118))):=Lh (bR.alloc nL _)
 go_upto_region 6 with(first|(at_builtin;refine Qaw (α:=Seal) _ rfl (.tmp 29) (.tmp 30) 26 rfl W5.heap.size 118 (.agg #[.int .i64 0,.int .i64 0,.int .i64 0,.int .i64 0,.int .i64 0]) 40 Tryz.underlying26 QbZ rfl (by decide) _ [] rfl HOW0.out (some ⟨bs,0,none⟩) 1 1 lxS rfl rfl (fun b=>b=bs) (lxS_sl (HX5.out.to HB50.out) rfl) (fun i hi _ e=>by have h1:=HX5.out.lt;have h2:some i=some W5.heap.size:=e;have h3:=Option.some.inj h2;have h4:i=bs:=hi;omega) (by decide) (by decide) HB50.out.size ?_;intro v2 w2 hown2 hg2 hat2;have HB51:Hid (Below W5.heap.size W5 w2):=Lh (HB50.out.grown hg2 HB50.out.size (fun r hr=>by have h2:some W5.heap.size=some r:=hr;have h3:=Option.some.inj h2;omega));obtain⟨A2,c2,rfl,-⟩:=hown2.form;have HOW1:Hid (Own w2 W5.heap.size 118 (.slice A2 1 c2) lxS):=Lh hown2;clear hown2 hg2 hat2)|(at_builtin;refine Qaw (α:=Seal) _ rfl (.tmp 31) (.tmp 33) 26 rfl W5.heap.size 118 (.agg #[.int .i64 0,.int .i64 0,.int .i64 0,.int .i64 0,.int .i64 0]) 40 Tryz.underlying26 QbZ rfl (by decide) _ lxS rfl (HOW1.out.alloc _) (some ⟨w2.heap.size,0,none⟩) 1 1 [(⟨5,7,2,3,2⟩:Seal)] rfl rfl (fun b=>b=w2.heap.size) (lxN_sl (heap_alloc_new w2 _) rfl) (fun i hi _ e=>by have h4:i=w2.heap.size:=hi;have:=(HOW1.out.lt i e.symm).2;omega) (by decide) (by decide) (by have:=HB51.out.size;simp;omega) ?_;intro v3 w3 hown3 hg3 hat3;have HB52:Hid (Below W5.heap.size W5 w3):=Lh ((HB51.out.alloc HB51.out.size _).grown hg3 (by have:=HB51.out.size;simp;omega) (fun r hr=>(HOW1.out.lt r hr).1));obtain⟨A3,c3,rfl,-⟩:=hown3.form;have HOW2:Hid (Own w3 W5.heap.size 118 (.slice A3 2 c3) lxM):=Lh hown3;clear hown3 hg3 hat3)|fail)
 have e1:lxS.length+1=2:=rfl;rw[e1];clear e1;have HI6:=Lh (HI5.out.to HB52.out);have HP6:=Lh (HP5.out.to HB52.out);have HX6:=Lh (HX5.out.to HB52.out)
 have HM6:Hid (Sl w3 (fun b=>b<w3.heap.size) A3 c3 lxM):=Lh (by
  obtain⟨A,c,e,h⟩:=HOW2.out.sl
  cases e
  exact h)
 clear HI5 HP5 HX5 HOW0 HOW1 HOW2 HB50 HB51 HB52;obtain⟨bp,op,A1,c1,A4,c4,rfl,-,hlp,p0,p1,p2,p3,p4,p5,hs1,hs2⟩:=pageS_at HP6.out (k:=0) (by decide);obtain⟨bl,ol,Ag,cg,An,cn,rfl,-,hll,l0,l1,l2,l3,hsg,hsn⟩:=QbL hs1 (k:=0) (by decide)
 have HPC:Hid (∀W,Below w3.heap.size w3 W→W.cell? ⟨bp,op,none⟩=some (.int .i64 1)∧W.cell? ⟨bp,op+1,none⟩=some (.int .i64 0)∧W.cell? ⟨bp,op+2,none⟩=some (.int .i64 5)∧W.cell? ⟨bp,op+3,none⟩=some (.int .i64 7)∧W.cell? ⟨bp,op+4,none⟩=some (.slice (some ⟨bl,ol,none⟩) 1 c1)∧W.cell? ⟨bp,op+5,none⟩=some (.slice A4 0 c4)∧ W.cell? ⟨bl,ol,none⟩=some (.int .i64 0)∧W.cell? ⟨bl,ol+1,none⟩=some (.int .i64 4)∧W.cell? ⟨bl,ol+2,none⟩=some (.slice Ag 3 cg)∧W.cell? ⟨bl,ol+3,none⟩=some (.slice An 0 cn)):=Lh fun W hW=>
  ⟨(hW.cell (p:=⟨bp,op,none⟩) hlp).trans p0,(hW.cell (p:=⟨bp,op+1,none⟩) hlp).trans p1,(hW.cell (p:=⟨bp,op+2,none⟩) hlp).trans p2,(hW.cell (p:=⟨bp,op+3,none⟩) hlp).trans p3,(hW.cell (p:=⟨bp,op+4,none⟩) hlp).trans p4,(hW.cell (p:=⟨bp,op+5,none⟩) hlp).trans p5,(hW.cell (p:=⟨bl,ol,none⟩) hll).trans l0,(hW.cell (p:=⟨bl,ol+1,none⟩) hll).trans l1,(hW.cell (p:=⟨bl,ol+2,none⟩) hll).trans l2,(hW.cell (p:=⟨bl,ol+3,none⟩) hll).trans l3⟩
 clear p0 p1 p2 p3 p4 p5 l0 l1 l2 l3 hs1 hs2 hsg hsn HP6;have p4:=(HPC.out w3 bR).2.2.2.2.1;go_upto_region 8 with(fail);clear p4;have HWD:=Lh (fun(s:ByteArray)=>QbJ s w3 HI6.out.sm.t.1);have HBX:=Lh (fun(n:Int) (hn:I64 n) (W:World) (hW:Below w3.heap.size w3 W)=>Qdh n hn W (HI6.out.sm.t.to hW));have HE:=Lh lx_box
 go_upto_region 9 with(first|(go_at_call 33;refine(QbJ _ w3 HI6.out.sm.t.1).mono ?_;rintro e w' ⟨rfl,rfl⟩)|(go_at_call 32;refine(Qdh _ (QcG _) w3 HI6.out.sm.t).mono ?_;rintro e W7 ⟨rfl,hb⟩;rw[HE.out.1];have HI7:=Lh (HI6.out.to hb);have HB7:=Lh hb;clear hb)|fail)
 go_upto_region 10 with(first|(go_at_call 33;refine(QbJ _ W7 HI7.out.sm.t.1).mono ?_;rintro e w' ⟨rfl,rfl⟩)|(go_at_call 32;refine(Qdh _ (QcG _) W7 HI7.out.sm.t).mono ?_;rintro e W8 ⟨rfl,hb⟩;rw[HE.out.2];have HI8:=Lh (HI7.out.to hb);have HB8:=Lh (HB7.out.trans (hb.mono HB7.out.size));clear hb)|fail)
 have HPV:=Lh (lx_good.pv);have HPL:Hid ((Qae 500 10 lx).length≤1048576):=Lh (Nat.le_trans lx_len (by decide));have HSS:Hid (∀W,Below w3.heap.size w3 W→Sl W (fun b=>b<W.heap.size) (some ⟨bs,0,none⟩) 1 lxS):=Lh fun W hW=>lxS_sl (HX6.out.to hW) (by have:=HX6.out.lt;have:=hW.size;show bs<W.heap.size;omega)
 have HSH:Hid (∀W,Below w3.heap.size w3 W→LvI W1 W b0 bb Ab cb→Calls Tryz.prog 16 #[.agg #[.int .i64 500,.int .i64 10,.slice Ab lx.length cb],.slice (some ⟨bs,0,none⟩) 1 1] W fun r W'=>∃v,r=.returned v∧Own W' W.heap.size 46 v [(⟨⟨#[49]⟩,[⟨#[111,110,101,32,91,50,54,93,32,91,51,54,93,32,102,111,117,114]⟩],[]⟩:SheetP)]∧Below W.heap.size W W'):=Lh fun W hW hl=>by
  have:=sheets_any (some ⟨bs,0,none⟩) 1 1 lxS hl.ok hl.sm.t lx_heq HPV.out HPL.out (HSS.out W hW) rfl (by decide) lxS_g;rwa [lx_sheets] at this
 have HAX:Hid (∀W,Below w3.heap.size w3 W→LvI W1 W b0 bb Ab cb→Calls Tryz.prog 22 #[.agg #[.int .i64 500,.int .i64 10,.slice Ab lx.length cb],.int .i64 2,.slice (some ⟨bs,0,none⟩) 1 1,.int .i64 8] W fun r W'=>∃v,r=.returned v∧Own W' W.heap.size 61 v [(⟨2,1,0,1,⟨#[116,119,111,32,116,104,114,101,101]⟩⟩:MarkP)]∧Below W.heap.size W W'):=Lh fun W hW hl=>by
  have:=Qdv 2 8 (some ⟨bs,0,none⟩) 1 1 lxS hl.ok hl.sm.t lx_heq HPV.out HPL.out (by rw[lx_annex];decide) (HSS.out W hW) rfl (by decide) lxS_g;rwa [lx_annex] at this
 have HAY:Hid (∀W,Below w3.heap.size w3 W→LvI W1 W b0 bb Ab cb→Calls Tryz.prog 22 #[.agg #[.int .i64 500,.int .i64 10,.slice Ab lx.length cb],.int .i64 2,.slice (some ⟨bs,0,none⟩) 1 1,.int .i64 4] W fun r W'=>∃A c,r=.returned (.slice A 0 c)∧Below W.heap.size W W'):=Lh fun W hW hl=>by
  have h:=Qdv 2 4 (some ⟨bs,0,none⟩) 1 1 lxS hl.ok hl.sm.t lx_heq HPV.out HPL.out (by rw[lx_annex0];decide) (HSS.out W hW) rfl (by decide) lxS_g;rw[lx_annex0] at h;refine h.mono ?_;rintro r W' ⟨v,rfl,ho,hb⟩;obtain⟨A,c,rfl,-⟩:=ho.form;exact⟨A,c,rfl,hb⟩
 have q0:=HI8.out.bx.cell 0 rfl;have q1:=HI8.out.bx.cell 1 rfl;have q2:=HI8.out.bx.cell 2 rfl
 go_upto_region 11 with(first|(go_at_call 16;refine(HSH.out W8 HB8.out HI8.out).mono ?_;rintro r W9 ⟨v,rfl,ho,hb⟩;obtain⟨A9,c9,rfl,hs,-,hc9,-⟩:=ho.parts;have HS9:=Lh hs;have HI9:=Lh (HI8.out.to hb);have HB9:=Lh (HB8.out.trans (hb.mono HB8.out.size));clear ho hs hb q0 q1 q2)|fail)
 have q0:=HI9.out.bx.cell 0 rfl;have q1:=HI9.out.bx.cell 1 rfl;have q2:=HI9.out.bx.cell 2 rfl
 go_upto_region 12 with(first|(go_at_call 22;refine(HAX.out W9 HB9.out HI9.out).mono ?_;rintro r W10 ⟨v,rfl,ho,hb⟩;obtain⟨A10,c10,rfl,hs,-,hc10,-⟩:=ho.parts;have HS10:=Lh hs;have HI10:=Lh (HI9.out.to hb);have HB10:=Lh (HB9.out.trans (hb.mono HB9.out.size));have HT9:=Lh (HS9.out.to hb);clear ho hs hb q0 q1 q2)|fail)
 obtain⟨b9,o9,A11,c11,A12,c12,rfl,-,hl9,s0,s1,s2,hs11,hs12⟩:=sheetP_at HT9.out (k:=0) (by decide);obtain⟨b11,o11,rfl,-,hl11,-,s3⟩:=str_at hs11 (k:=0) (by decide);obtain⟨b10,o10,rfl,-,hl10,m0,m1,m2,m3,m4⟩:=mark_at HS10.out (k:=0) (by decide);have HMC:Hid (∀W,Below W10.heap.size W10 W→(W.cell? ⟨b9,o9,none⟩=some (.string ⟨#[49]⟩)∧W.cell? ⟨b9,o9+1,none⟩=some (.slice (some ⟨b11,o11,none⟩) 1 c11)∧W.cell? ⟨b11,o11,none⟩=some (.string ⟨#[111,110,101,32,91,50,54,93,32,91,51,54,93,32,102,111,117,114]⟩))∧W.cell? ⟨b10,o10,none⟩=some (.int .i64 2)∧W.cell? ⟨b10,o10+1,none⟩=some (.int .i64 1)∧W.cell? ⟨b10,o10+2,none⟩=some (.int .i64 0)∧W.cell? ⟨b10,o10+3,none⟩=some (.int .i64 1)∧W.cell? ⟨b10,o10+4,none⟩=some (.string ⟨#[116,119,111,32,116,104,114,101,101]⟩)):=Lh fun W hW=>
  ⟨⟨(hW.cell (p:=⟨b9,o9,none⟩) hl9).trans s0,(hW.cell (p:=⟨b9,o9+1,none⟩) hl9).trans s1,(hW.cell (p:=⟨b11,o11,none⟩) hl11).trans s3⟩,(hW.cell (p:=⟨b10,o10,none⟩) hl10).trans m0,(hW.cell (p:=⟨b10,o10+1,none⟩) hl10).trans m1,(hW.cell (p:=⟨b10,o10+2,none⟩) hl10).trans m2,(hW.cell (p:=⟨b10,o10+3,none⟩) hl10).trans m3,(hW.cell (p:=⟨b10,o10+4,none⟩) hl10).trans m4⟩
 clear s0 s1 s2 s3 m0 m1 m2 m3 m4 hs11 hs12 HS9 HS10 HT9;have q0:=HI10.out.bx.cell 0 rfl;have q1:=HI10.out.bx.cell 1 rfl;have q2:=HI10.out.bx.cell 2 rfl;have s1:=(HMC.out W10 bR).1.2.1
 go_upto_region 14 with(first|(go_at_call 22;refine(HAY.out W10 HB10.out HI10.out).mono ?_;rintro r W11 ⟨A13,c13,rfl,hb⟩;have HI11:=Lh (HI10.out.to hb);have HB11:=Lh (HB10.out.trans (hb.mono HB10.out.size));have HBx:=Lh hb;clear hb q0 q1 q2 s1)|fail)
 have m0:=(HMC.out W11 HBx.out).2.1;have m1:=(HMC.out W11 HBx.out).2.2.1;have m2:=(HMC.out W11 HBx.out).2.2.2.1;have m3:=(HMC.out W11 HBx.out).2.2.2.2.1;have m4:=(HMC.out W11 HBx.out).2.2.2.2.2;go_upto_region 15 with(fail);clear m0 m1 m2 m3 m4;have hj1:([111,110,101,32,91,50,54,93,32,91,51,54,93,32,102,111,117,114]==((⟨#[111,110,101,32]⟩:ByteArray)++(⟨#[91,50,54,93]⟩:ByteArray)++(⟨#[32]⟩:ByteArray)++(⟨#[91,51,54,93]⟩:ByteArray)++(⟨#[32,102,111,117,114]⟩:ByteArray)).toList)=true:=by decide +kernel
 have hj2:([111,110,101,32,116,119,111,32,91,51,54,93,32,102,111,117,114]==((⟨#[111,110,101,32,116,119,111,32]⟩:ByteArray)++(⟨#[91,51,54,93]⟩:ByteArray)++(⟨#[32,102,111,117,114]⟩:ByteArray)).toList)=true:=by decide +kernel
 have HLN:Hid (∀W,Below w3.heap.size w3 W→LvI W1 W b0 bb Ab cb→Calls Tryz.prog 24 #[.agg #[.int .i64 1,.int .i64 0,.int .i64 5,.int .i64 7,.slice (some ⟨bl,ol,none⟩) 1 c1,.slice A4 0 c4],.agg #[.int .i64 0,.int .i64 4,.slice Ag 3 cg,.slice An 0 cn],.agg #[.slice (some ⟨b0+1,0,none⟩) 1 1,.slice none 0 0],.slice A3 2 c3,.int .i64 8] W fun r W'=>r=.returned (.string ⟨#[111,110,101,32,116,119,111,32,91,51,54,93,32,102,111,117,114]⟩)∧Below W.heap.size W W'):=Lh fun W hW hl=>by
  have h:=vline_any 1 0 5 7 (some ⟨bl,ol,none⟩) A4 1 c1 0 c4 0 4 Ag An 3 cg 0 cn (some ⟨b0+1,0,none⟩) none 1 0 [lxW] [] A3 c3 2 lxM 8 W hl.ts (Sl.nil _ _ _ _ (by simp[maxLen])) (by decide) (by decide) (by decide) ok_lxW (HM6.out.to hW) rfl (by decide) lxM_g hl.sm.t (by decide) (by decide);rw[show Qau ⟨[lxW],[]⟩=lxW from rfl,lx_line] at h;exact h
 refine Qag [35] (fun i=>if i=35 then SP.val (.string ⟨#[111,110,101,32,116,119,111,32,91,51,54,93,32,102,111,117,114]⟩) else SP.any) 42 (by kernel_rfl) (by kernel_rfl) ?_;intro T _ g hg hgm;have e0:∀d,(g d).cell? ⟨b9,o9,none⟩=some (.string ⟨#[49]⟩):=fun d=>(HMC.out (g d) (HBx.out.trans ((hg d).mono HBx.out.size))).1.1
 have e1:∀d,(g d).cell? ⟨b9,o9+1,none⟩=some (.slice (some ⟨b11,o11,none⟩) 1 c11):=fun d=>(HMC.out (g d) (HBx.out.trans ((hg d).mono HBx.out.size))).1.2.1
 have e2:∀d,(g d).cell? ⟨b11,o11,none⟩=some (.string ⟨#[111,110,101,32,91,50,54,93,32,91,51,54,93,32,102,111,117,114]⟩):=fun d=>(HMC.out (g d) (HBx.out.trans ((hg d).mono HBx.out.size))).1.2.2
 have HPD:Hid (∀d,Below w3.heap.size w3 (g d)):=Lh fun d=>HB11.out.trans ((hg d).mono HB11.out.size)
 have p0:∀d,(g d).cell? ⟨bp,op,none⟩=some (.int .i64 1):=fun d=>(HPC.out (g d) (HPD.out d)).1
 have p1:∀d,(g d).cell? ⟨bp,op+1,none⟩=some (.int .i64 0):=fun d=>(HPC.out (g d) (HPD.out d)).2.1
 have p2:∀d,(g d).cell? ⟨bp,op+2,none⟩=some (.int .i64 5):=fun d=>(HPC.out (g d) (HPD.out d)).2.2.1
 have p3:∀d,(g d).cell? ⟨bp,op+3,none⟩=some (.int .i64 7):=fun d=>(HPC.out (g d) (HPD.out d)).2.2.2.1
 have p4:∀d,(g d).cell? ⟨bp,op+4,none⟩=some (.slice (some ⟨bl,ol,none⟩) 1 c1):=fun d=>(HPC.out (g d) (HPD.out d)).2.2.2.2.1
 have p5:∀d,(g d).cell? ⟨bp,op+5,none⟩=some (.slice A4 0 c4):=fun d=>(HPC.out (g d) (HPD.out d)).2.2.2.2.2.1
 have l0:∀d,(g d).cell? ⟨bl,ol,none⟩=some (.int .i64 0):=fun d=>(HPC.out (g d) (HPD.out d)).2.2.2.2.2.2.1
 have l1:∀d,(g d).cell? ⟨bl,ol+1,none⟩=some (.int .i64 4):=fun d=>(HPC.out (g d) (HPD.out d)).2.2.2.2.2.2.2.1
 have l2:∀d,(g d).cell? ⟨bl,ol+2,none⟩=some (.slice Ag 3 cg):=fun d=>(HPC.out (g d) (HPD.out d)).2.2.2.2.2.2.2.2.1
 have l3:∀d,(g d).cell? ⟨bl,ol+3,none⟩=some (.slice An 0 cn):=fun d=>(HPC.out (g d) (HPD.out d)).2.2.2.2.2.2.2.2.2
 have t0:∀d,(g d).cell? ⟨b0+1+1,0,none⟩=some (.slice (some ⟨b0+1,0,none⟩) 1 1):=fun d=>(HI11.out.to (hg d)).tx.cell 0 rfl
 have t1:∀d,(g d).cell? ⟨b0+1+1,1,none⟩=some (.slice none 0 0):=fun d=>(HI11.out.to (hg d)).tx.cell 1 rfl
 (repeat(refine Qaf (by rfl) fun Kq hq=>?_;go_big_quiet_step (fail);refine wpQuiet_nil (hq _ ?_);clear hq Kq));refine Qal (by rfl) (by rfl) (fun d hG K Q hK=>?_) (fun v d hG hp Kr hr=>?_)
 ·go_simp;go_at_call 24;refine(HLN.out (g d) (HPD.out d) (HI11.out.to (hg d))).mono ?_;rintro e W1 ⟨rfl,hb1⟩;go_simp;exact hK _ _ hb1 (rfl)
 have hp:v=.string ⟨#[111,110,101,32,116,119,111,32,91,51,54,93,32,102,111,117,114]⟩:=hp;subst hp;(try clear hp);clear hG;go_frame;refine hr _ ?_;clear hr Kr;(repeat(refine Qaf (by rfl) fun Kq hq=>?_;go_big_quiet_step (fail);refine wpQuiet_nil (hq _ ?_);clear hq Kq));refine wpR_end (by kernel_rfl) (fun d hG=>?_) _;have HBd:=Lh (hg d);clear hG hg hgm;unfold Exit.then;go_wp2_with fail;go_ret;exact⟨rfl,HI11.out.b.trans (HBd.out.mono HI11.out.b.size)⟩
def TxtQ (P:Nat→Prop)(o:Option TextP)(e:Ending)(W':World):Prop:=∃Aa ca Ab cb,e=.returned (.tuple #[.agg #[.slice Aa (o.getD ⟨[],[]⟩).a.length ca,.slice Ab (o.getD ⟨[],[]⟩).b.length cb],.bool o.isSome])∧Sl W' P Aa ca (o.getD ⟨[],[]⟩).a∧Sl W' P Ab cb (o.getD ⟨[],[]⟩).b
theorem TxtQ.no {P:Nat→Prop}{o:Option TextP}(W':World)(h:o=none):TxtQ P o (.returned (.tuple #[.agg #[.slice none 0 0,.slice none 0 0],.bool false])) W':=by
 subst h;exact⟨none,0,none,0,rfl,Sl.nil _ _ _ _ (Nat.zero_le _),Sl.nil _ _ _ _ (Nat.zero_le _)⟩
theorem TxtQ.yes {P:Nat→Prop}{o:Option TextP}{z:TextP}{W':World}{Aa Ab:Option Addr}{ca cb:Nat}(h:o=some z)(h1:Sl W' P Aa ca z.a)(h2:Sl W' P Ab cb z.b):TxtQ P o (.returned (.tuple #[.agg #[.slice Aa z.a.length ca,.slice Ab z.b.length cb],.bool true])) W':=by
 subst h;exact⟨Aa,ca,Ab,cb,rfl,h1,h2⟩
set_option maxRecDepth 100000 in
theorem rtextAtQ_any {m h:Int}{A:Option Addr}{c:Nat}{l:List SectP}{w:World}(P:Nat→Prop)(hs:Sl w P A c l)(hsh:Qbf l)(heq:∀s∈l,s.texts.length=s.vers.length)(entry ver:Int):
 Calls Tryz.prog 18 #[.agg #[.int .i64 m,.int .i64 h,.slice A l.length c],.int .i64 entry,.int .i64 ver] w fun e W'=>TxtQ P (Qc9 l entry ver) e W'∧Below w.heap.size w W':=by
 obtain⟨wb,hwb⟩:∃wb,(w.alloc (.cells #[.int .i64 m,.int .i64 h,.slice A l.length c] 25)).alloc (.cells #[.slice none 0 0,.slice none 0 0] 36)=wb:=⟨_,rfl⟩;have hba:Below w.heap.size w wb:=by rw[←hwb];exact(bR.alloc nL _).alloc (by simp) _
 have hx0:ABox wb w.heap.size 25 [.int .i64 m,.int .i64 h,.slice A l.length c]:=by rw[←hwb];exact(Below.heap_alloc _ _ _ (by simp)).trans (heap_alloc_new w _)
 have hx1:ABox wb (w.heap.size+1) 36 [.slice none 0 0,.slice none 0 0]:=by rw[←hwb];exact Qar (by simp)
 have HF:=Lh (rfind_any A c l m h entry wb ((hs.mono (S':=fun b=>b<w.heap.size) fun _ _ hl=>hl).to hba) (by have:=hsh.1;omega));have hsz:wb.heap.size=w.heap.size+2:=by rw[←hwb];simp
 have HZ:=Lh hsz;have HB:=Lh hba;have HX0:=Lh hx0;have HX1:=Lh hx1;have HS:=Lh hs;have HQ:=Lh heq;have HSH:=Lh hsh;have hlc:l.length≤c:=hs.1;have x0:=hx0.cell 0 rfl;have x1:=hx0.cell 1 rfl;have x2:=hx0.cell 2 rfl;clear hba hx0 hx1 hsz hs heq hsh;go_enter Tryz.func18,Tryz.ntmps18;go_upto_region 1 with(fail);(try rw[hwb]);clear hwb
 go_upto_region 2 with(first|(go_at_call 57;refine HF.out.mono ?_;rintro e w1 ⟨rfl,hb1⟩;have HB1:=Lh hb1;clear hb1 x0 x1 x2)|fail)
 have HX1w:=Lh (HX1.out.to HB1.out);have HX0w:=Lh (HX0.out.to HB1.out);have HBA:Hid (Below w.heap.size w w1):=Lh (HB.out.trans (HB1.out.mono HB.out.size));have HZ1:Hid (w.heap.size+2≤w1.heap.size):=Lh (by have:=HB1.out.size;have:=HZ.out;omega);clear HF HB1 HX1 HX0 HB;rcases QbQ l entry with hf|⟨k,hk,hf,hfe⟩
 ·have HN:=Lh (QcW (v:=ver) hf);rw[hf];have z0:=HX1w.out.cell 0 rfl;have f0:=HX1w.out.fz 0;have z1:=(HX1w.out.set 0 (.slice none 0 0)).cell 1 rfl;have f1:=(HX1w.out.set 0 (.slice none 0 0)).fz 1;clear hf;go_wp2_with fail
  exact bodyPost_ret (v:=.tuple #[.agg #[.slice none 0 0,.slice none 0 0],.bool false]) (Qah Tryz.results18 _ _ (w.heap.size+1) _ #[.slice none 0 0,.slice none 0 0] (0,0) _ rfl (abox2 HX1w.out _ _) Tryz.underlying36 rfl (by kernel_rfl)) rfl ⟨TxtQ.no _ HN.out,Qcs HBA.out (by omega) _ _⟩
 ·obtain⟨b,o,Ag,cg,An,cn,rfl,-,hbl,e0,e1,e2,e3,hg1,hn1,-⟩:=Qco HS.out hk;have hqe:=HQ.out _ (List.getElem_mem hk);have hshx:=HSH.out.2 _ (List.getElem_mem hk);obtain⟨x,hx⟩:∃x,l[k]=x:=⟨_,rfl⟩;rw[hx] at e0 e1 e2 e3 hg1 hn1 hqe hshx;have HNO:Hid (Qdl x.vers ver= -1→Qc9 l entry ver=none):=Lh (fun h1=>QcT hf hk hx (by omega) h1);have HYES:Hid (∀j (hj:j<x.texts.length),Qdl x.vers ver=(j:Int)→Qc9 l entry ver=some x.texts[j]):=Lh (fun j hj h1=>Qdy hf hk hx hj h1);have k0:=(HBA.out.cell (p:=⟨b,o+k*4,none⟩) hbl).trans e0;have k1:=(HBA.out.cell (p:=⟨b,o+k*4+1,none⟩) hbl).trans e1;have k2:=(HBA.out.cell (p:=⟨b,o+k*4+2,none⟩) hbl).trans e2;have k3:=(HBA.out.cell (p:=⟨b,o+k*4+3,none⟩) hbl).trans e3;have x2:=HX0w.out.cell 2 rfl;have HG1:=Lh hg1;have HN1:=Lh hn1;have HV:Hid (x.texts.length=x.vers.length∧x.vers.length≤1048576):=Lh ⟨hqe,hshx.1⟩;obtain⟨nv,hnv⟩:∃nv,x.vers.length=nv:=⟨_,rfl⟩;obtain⟨nt,hnt⟩:∃nt,x.texts.length=nt:=⟨_,rfl⟩;have HNV:=Lh hnv;have HNT:=Lh hnt;have hgc:nv≤cg:=(by rw[←hnv];exact hg1.1);have hnc:nt≤cn:=(by rw[←hnt];exact hn1.1);have hn9:nv≤1048576:=(by rw[←hnv];exact hshx.1);have HTV:Hid (nt=nv):=Lh (by rw[←hnv,←hnt];exact hqe);rw[hnv] at k2;rw[hnt] at k3;rw[hf];have hkI:¬(k:Int)<0:=(by omega);have hkL:(k:Int)<(l.length:Int):=(by omega);clear hf hfe e0 e1 e2 e3 hg1 hn1 hqe hshx hx hnv hnt;obtain⟨O,hO⟩:∃O,w1.heap.size=O:=⟨_,rfl⟩;obtain⟨ws,hws⟩:∃ws,w1.alloc (.cells #[.int .i64 x.entry,.bool x.frozen,.slice Ag nv cg,.slice An nt cn] 74)=ws:=⟨_,rfl⟩;have hbs:Below w1.heap.size w1 ws:=(by rw[←hws];exact bR.alloc nL _);have hxs:ABox ws O 74 [.int .i64 x.entry,.bool x.frozen,.slice Ag nv cg,.slice An nt cn]:=(by rw[←hws,←hO];exact heap_alloc_new w1 _);have HXS:=Lh hxs;have HX1s:=Lh (HX1w.out.to hbs);have HBs:Hid (Below w.heap.size w ws):=Lh (HBA.out.trans (hbs.mono HBA.out.size));go_upto_region 5 with(fail);(try rw[hO]);(try rw[hws]);clear hO hws hbs hxs k0 k1 k2 k3 x2;go_wp2_with fail;go_loopw [10] (fun i wr=>∃q:Nat,q≤nv∧i=.int .i64 q∧Hid (∀i (hi:i<x.vers.length),i<q→x.vers[i]≠ver)∧wr=ws) (fun i _=>nv-(intOf i).toNat);(case atStart=>exact⟨0,Nat.zero_le _,rfl,Lh (fun i hi h=>absurd h (Nat.not_lt_zero _)),rfl⟩);case round=>
   obtain⟨q,hq,rfl,HN,rfl⟩:=hrel;obtain⟨ws,rfl⟩:∃ws:World,ws=wr:=⟨_,rfl⟩;have s2:=HXS.out.cell 2 rfl;have s3:=HXS.out.cell 3 rfl;by_cases hlt:q<nv
   ·have hql:q<x.vers.length:=by rw[HNV.out];exact hlt
    have hqt:q<x.texts.length:=(by rw[HNT.out,HTV.out];exact hlt);obtain⟨bv,ov,rfl,-,-,-,ev⟩:=QbB (HG1.out.keep (Kept.all HBs.out) HBs.out.size) hql;obtain⟨y,hy⟩:∃y,x.vers[q]=y:=⟨_,rfl⟩;rw[hy] at ev;have HY:=Lh hy;have hqI:(q:Int)<(nv:Int):=(by omega);have hqT:(q:Int)<(nt:Int):=(by rw[HTV.out];exact hqI);clear hy;by_cases hyv:y=ver
    ·have hyes:=HYES.out q hqt (idxP_hit hql (by rw[HY.out];exact hyv) (fun i hi=>HN.out i (by omega) hi));obtain⟨bt,ot,Aa,ca,Ab,cb,rfl,-,hbt,t0',t1',ht1,ht2⟩:=QdA HN1.out hqt;obtain⟨z,hz⟩:∃z,x.texts[q]=z:=⟨_,rfl⟩;rw[hz] at t0' t1' ht1 ht2 hyes;have t0:=(HBs.out.cell (p:=⟨bt,ot+q*2,none⟩) hbt).trans t0';have t1:=(HBs.out.cell (p:=⟨bt,ot+q*2+1,none⟩) hbt).trans t1';have HBF:=Lh (Qcs HBs.out (b:=w.heap.size+1) (by omega) (.slice Aa z.a.length ca) (.slice Ab z.b.length cb));have HYE:=Lh hyes;have HT1:=Lh ht1;have HT2:=Lh ht2;have z0:=HX1s.out.cell 0 rfl;have f0:=HX1s.out.fz 0;have z1:=(HX1s.out.set 0 (.slice Aa z.a.length ca)).cell 1 rfl;have f1:=(HX1s.out.set 0 (.slice Aa z.a.length ca)).fz 1;clear hz hyes ht1 ht2 t0' t1' hbt;go_wp2_with fail
     refine bodyPost_ret (v:=.tuple #[.agg #[.slice Aa z.a.length ca,.slice Ab z.b.length cb],.bool true]) (Qah Tryz.results18 _ _ (w.heap.size+1) _ #[.slice Aa z.a.length ca,.slice Ab z.b.length cb] (0,0) _ rfl (abox2 HX1s.out _ _) Tryz.underlying36 rfl (by kernel_rfl)) rfl ⟨TxtQ.yes HYE.out (HT1.out.keep (Kept.all HBF.out) HBF.out.size) (HT2.out.keep (Kept.all HBF.out) HBF.out.size),HBF.out⟩
    ·have HN2:Hid (∀i (hi:i<x.vers.length),i<q+1→x.vers[i]≠ver):=Lh (fun i hi h=>by
      by_cases hik:i=q
      ·subst hik;rw[HY.out];exact hyv
      ·exact HN.out i hi (by omega))
     go_wp2_with fail;go_roundw;(case rel=>exact⟨q+1,by omega,by go_num,HN2,trivial⟩);case measure=>simp[intOf];omega
   ·have HNN:Hid (Qc9 l entry ver=none):=Lh (HNO.out (Qcw fun i hi=>HN.out i hi (by have:=HNV.out;omega)));obtain rfl:q=nv:=by omega
    have z0:=HX1s.out.cell 0 rfl;have f0:=HX1s.out.fz 0;have z1:=(HX1s.out.set 0 (.slice none 0 0)).cell 1 rfl;have f1:=(HX1s.out.set 0 (.slice none 0 0)).fz 1;have hqI:¬(q:Int)<(q:Int):=(by omega);go_wp2_with fail
    exact bodyPost_ret (v:=.tuple #[.agg #[.slice none 0 0,.slice none 0 0],.bool false]) (Qah Tryz.results18 _ _ (w.heap.size+1) _ #[.slice none 0 0,.slice none 0 0] (0,0) _ rfl (abox2 HX1s.out _ _) Tryz.underlying36 rfl (by kernel_rfl)) rfl ⟨TxtQ.no _ HNN.out,Qcs HBs.out (by omega) _ _⟩
set_option maxRecDepth 100000 in
theorem textAtQ_any {m h:Int}{A:Option Addr}{c:Nat}{l:List SectP}{w:World}(hs:Sl w (fun b=>b<w.heap.size) A c l)(hsh:Qbf l)(heq:∀s∈l,s.texts.length=s.vers.length)(entry ver:Int):
 Calls Tryz.prog 27 #[.agg #[.int .i64 m,.int .i64 h,.slice A l.length c],.int .i64 entry,.int .i64 ver] w fun e W'=>TxtQ (Up w.heap.size) (Qc9 l entry ver) e W'∧Below w.heap.size w W':=by
 obtain⟨wb,hwb⟩:∃wb,(w.alloc (.cells #[.int .i64 m,.int .i64 h,.slice A l.length c] 25)).alloc (.cells #[.slice none 0 0,.slice none 0 0] 36)=wb:=⟨_,rfl⟩;have hba:Below w.heap.size w wb:=by rw[←hwb];exact(bR.alloc nL _).alloc (by simp) _
 have hx0:ABox wb w.heap.size 25 [.int .i64 m,.int .i64 h,.slice A l.length c]:=by rw[←hwb];exact(Below.heap_alloc _ _ _ (by simp)).trans (heap_alloc_new w _)
 have hx1:ABox wb (w.heap.size+1) 36 [.slice none 0 0,.slice none 0 0]:=by rw[←hwb];exact Qar (by simp)
 have HF:=Lh (find_any A c l m h entry wb (hs.to hba) (by have:=hsh.1;omega));have hsz:wb.heap.size=w.heap.size+2:=by rw[←hwb];simp
 have HZ:=Lh hsz;have HB:=Lh hba;have HX0:=Lh hx0;have HX1:=Lh hx1;have HS:=Lh hs;have HQ:=Lh heq;have HSH:=Lh hsh;have hlc:l.length≤c:=hs.1;have x0:=hx0.cell 0 rfl;have x1:=hx0.cell 1 rfl;have x2:=hx0.cell 2 rfl;clear hba hx0 hx1 hsz hs heq hsh;go_enter Tryz.func27,Tryz.ntmps27;go_upto_region 1 with(fail);(try rw[hwb]);clear hwb
 go_upto_region 2 with(first|(go_at_call 69;refine HF.out.mono ?_;rintro e w1 ⟨rfl,hb1⟩;have HB1:=Lh hb1;clear hb1 x0 x1 x2)|fail)
 have HX1w:=Lh (HX1.out.to HB1.out);have HX0w:=Lh (HX0.out.to HB1.out);have HBA:Hid (Below w.heap.size w w1):=Lh (HB.out.trans (HB1.out.mono HB.out.size));have HZ1:Hid (w.heap.size+2≤w1.heap.size):=Lh (by have:=HB1.out.size;have:=HZ.out;omega);clear HF HB1 HX1 HX0 HB;rcases QbQ l entry with hf|⟨k,hk,hf,hfe⟩
 ·have HN:=Lh (QcW (v:=ver) hf);rw[hf];have z0:=HX1w.out.cell 0 rfl;have f0:=HX1w.out.fz 0;have z1:=(HX1w.out.set 0 (.slice none 0 0)).cell 1 rfl;have f1:=(HX1w.out.set 0 (.slice none 0 0)).fz 1;clear hf;go_wp2_with fail
  exact bodyPost_ret (v:=.tuple #[.agg #[.slice none 0 0,.slice none 0 0],.bool false]) (Qah Tryz.results27 _ _ (w.heap.size+1) _ #[.slice none 0 0,.slice none 0 0] (0,0) _ rfl (abox2 HX1w.out _ _) Tryz.underlying36 rfl (by kernel_rfl)) rfl ⟨TxtQ.no _ HN.out,Qcs HBA.out (by omega) _ _⟩
 ·obtain⟨b,o,Ag,cg,An,cn,rfl,-,hbl,e0,e1,e2,e3,hg1,hn1,-⟩:=Qco HS.out hk;have hqe:=HQ.out _ (List.getElem_mem hk);have hshx:=HSH.out.2 _ (List.getElem_mem hk);obtain⟨x,hx⟩:∃x,l[k]=x:=⟨_,rfl⟩;rw[hx] at e0 e1 e2 e3 hg1 hn1 hqe hshx;have HNO:Hid (Qdl x.vers ver= -1→Qc9 l entry ver=none):=Lh (fun h1=>QcT hf hk hx (by omega) h1);have HYES:Hid (∀j (hj:j<x.texts.length),Qdl x.vers ver=(j:Int)→Qc9 l entry ver=some x.texts[j]):=Lh (fun j hj h1=>Qdy hf hk hx hj h1);have k2:=(HBA.out.cell (p:=⟨b,o+k*4+2,none⟩) hbl).trans e2;have k3:=(HBA.out.cell (p:=⟨b,o+k*4+3,none⟩) hbl).trans e3;have x2:=HX0w.out.cell 2 rfl;have HIX:=Lh (indexI_any Ag cg x.vers ver w1 (hg1.to HBA.out) (by have:=hshx.1;omega));have HN1:=Lh hn1;have HSX:=Lh hshx;have HV:Hid (x.texts.length=x.vers.length∧x.vers.length≤1048576):=Lh ⟨hqe,hshx.1⟩;have hnc:x.texts.length≤cn:=hn1.1;rw[hf];have hkI:¬(k:Int)<0:=(by omega);have hkL:(k:Int)<(l.length:Int):=(by omega);clear hf hfe e0 e1 e2 e3 hg1 hn1 hqe hshx hx
  go_upto_region 5 with(first|(go_at_call 70;refine HIX.out.mono ?_;rintro e w2 ⟨rfl,rfl⟩)|fail)
  by_cases hin:ver∈x.vers
  ·have hj:x.vers.findIdx (fun x=>decide (x=ver))<x.vers.length:=List.findIdx_lt_length_of_exists ⟨ver,hin,by simp⟩;have hix:Qdl x.vers ver=(x.vers.findIdx (fun x=>decide (x=ver)):Int):=(by unfold Qdl;rw[if_pos hj]);obtain⟨j,hje⟩:∃j,x.vers.findIdx (fun x=>decide (x=ver))=j:=⟨_,rfl⟩;rw[hje] at hj hix;have hqt:j<x.texts.length:=(by rw[HV.out.1];exact hj);have hyes:=HYES.out j hqt hix;rw[hix];obtain⟨bt,ot,Aa,ca,Ab,cb,rfl,-,hbt,t0',t1',ht1,ht2⟩:=QdA HN1.out hqt;have hsx:=HSX.out.2.2 _ (List.getElem_mem hqt);obtain⟨z,hz⟩:∃z,x.texts[j]=z:=⟨_,rfl⟩;rw[hz] at t0' t1' ht1 ht2 hyes hsx;have t0:=(HBA.out.cell (p:=⟨bt,ot+j*2,none⟩) hbt).trans t0';have t1:=(HBA.out.cell (p:=⟨bt,ot+j*2+1,none⟩) hbt).trans t1';have HYE:=Lh hyes;have HBT:=Lh (QcF Aa Ab ca cb z.a z.b _ (ht1.to HBA.out) (ht2.to HBA.out) hsx.1 hsx.2);have hjI:¬(j:Int)<0:=(by omega);have hjT:(j:Int)<(x.texts.length:Int):=(by omega);clear hz hyes ht1 ht2 t0' t1' hbt hix hje hj hin hsx
   go_wp2_with (first
    |(go_at_call 71;refine HBT.out.mono ?_;rintro e w3 ⟨va,vb,rfl,hr,hb3⟩;obtain⟨Ag1,Ag2,hvv,⟨A5,c5,e5,hs5,-⟩,⟨A6,c6,e6,hs6,-⟩⟩:=hr;cases hvv;cases e5;cases e6;have HS5:=Lh hs5;have HS6:=Lh hs6;have HB3:=Lh hb3;clear hs5 hs6 hb3 k2 k3 x2 t0 t1;have z0:=(HX1w.out.to HB3.out).cell 0 rfl;have f0:=(HX1w.out.to HB3.out).fz 0;have z1:=((HX1w.out.to HB3.out).set 0 (.slice A5 z.a.length c5)).cell 1 rfl;have f1:=((HX1w.out.to HB3.out).set 0 (.slice A5 z.a.length c5)).fz 1)
    |fail)
   have HBF:=Lh (Qcs (HBA.out.trans (HB3.out.mono HBA.out.size)) (b:=w.heap.size+1) (by omega) (.slice A5 z.a.length c5) (.slice A6 z.b.length c6))
   have hkp:∀i,Up w1.heap.size i→((w3.setCell ⟨w.heap.size+1,0,none⟩ (.slice A5 z.a.length c5)).setCell ⟨w.heap.size+1,1,none⟩ (.slice A6 z.b.length c6)).heap[i]? =w3.heap[i]? :=fun i (hi:w1.heap.size≤i)=>by
    have:=HZ1.out;exact(Qaa _ _ _ _ (by omega)).trans (Qaa _ _ _ _ (by omega))
   refine bodyPost_ret (v:=.tuple #[.agg #[.slice A5 z.a.length c5,.slice A6 z.b.length c6],.bool true]) (Qah Tryz.results27 _ _ (w.heap.size+1) _ #[.slice A5 z.a.length c5,.slice A6 z.b.length c6] (0,0) _ rfl (abox2 (HX1w.out.to HB3.out) _ _) Tryz.underlying36 rfl (by kernel_rfl)) rfl ⟨TxtQ.yes HYE.out ((HS5.out.keep (fun i hi _=>hkp i hi) (by simp)).mono fun i (hi:w1.heap.size≤i) _=>by show w.heap.size≤i;have:=HZ1.out;omega) ((HS6.out.keep (fun i hi _=>hkp i hi) (by simp)).mono fun i (hi:w1.heap.size≤i) _=>by show w.heap.size≤i;have:=HZ1.out;omega),HBF.out⟩
  ·have hix:Qdl x.vers ver= -1:=Qcw fun i hi e=>hin (by rw[←e];exact List.getElem_mem hi)
   have HNN:Hid (Qc9 l entry ver=none):=Lh (HNO.out hix);rw[hix];have z0:=HX1w.out.cell 0 rfl;have f0:=HX1w.out.fz 0;have z1:=(HX1w.out.set 0 (.slice none 0 0)).cell 1 rfl;have f1:=(HX1w.out.set 0 (.slice none 0 0)).fz 1;clear hix hin k2 k3 x2;go_wp2_with fail
   exact bodyPost_ret (v:=.tuple #[.agg #[.slice none 0 0,.slice none 0 0],.bool false]) (Qah Tryz.results27 _ _ (w.heap.size+1) _ #[.slice none 0 0,.slice none 0 0] (0,0) _ rfl (abox2 HX1w.out _ _) Tryz.underlying36 rfl (by kernel_rfl)) rfl ⟨TxtQ.no _ HNN.out,Qcs HBA.out (by omega) _ _⟩
theorem may_zero (x:Int):may 0 x=true:=by
 unfold may;simp
theorem joinS_next {l:List ByteArray}{x:ByteArray}{n:Nat}(hn:l.length=n):QaL (l++[x])=if 0<n then QaL l++⟨#[32]⟩++x else x:=by
 split
 ·exact joinS_snoc l (by intro e;rw[e] at hn;simp at hn;omega) x
 ·have:l=[]:=List.eq_nil_of_length_eq_zero (by omega);subst this;rw[List.nil_append,joinS_one]
def NoB (l:List UInt8):Prop:=∀b∈l,b≠32
theorem nob_okW {l:List UInt8}(h:okW l=true):NoB l:=fun b hb e=>by
 subst e;unfold okW at h;have h1:=List.all_eq_true.1 h 32 hb;have h2:gw 32=0:=gw_lo 32 (by decide);have h3:(32:UInt8).toNat=32:=rfl;rw[h3,h2] at h1;cases h1
theorem nob_width {s:ByteArray}(h:1≤Qav s):NoB s.data.toList:=by
 unfold Qav at h;split at h
 ·omega
 ·split at h
  ·rename_i h1;exact nob_okW h1
  ·omega
theorem nob_dec:∀(u:Nat),NoB (Lib.decDigits u):=by
 intro u;induction u using Nat.strongRecOn with
 |ind u ih=>
  rw[Lib.decDigits];split
  ·rename_i h;intro b hb e;rw[List.mem_singleton.1 hb] at e;have h1:=congrArg UInt8.toNat e;rw[UInt8.toNat_ofNat',Nat.mod_eq_of_lt (by omega)] at h1;have h2:(32:UInt8).toNat=32:=rfl;omega
  ·rename_i h;intro b hb;rcases List.mem_append.1 hb with hb|hb
   ·exact ih (u/10) (by omega) b hb
   ·intro e;rw[List.mem_singleton.1 hb] at e;have h1:=congrArg UInt8.toNat e;rw[UInt8.toNat_ofNat',Nat.mod_eq_of_lt (by omega)] at h1;have h2:(32:UInt8).toNat=32:=rfl;omega
theorem nob_box (n:Int):NoB (box n).data.toList:=by
 unfold box Lib.itoa;intro b hb;simp only[List.mem_cons,List.mem_append,List.not_mem_nil,or_false] at hb;rcases hb with rfl|hb|rfl
 ·decide
 ·split at hb
  ·rcases List.mem_cons.1 hb with rfl|hb
   ·decide
   ·exact nob_dec _ b hb
  ·exact nob_dec _ b hb
 ·decide
theorem nob_show {sl:List Seal}{gs e v x:Int}{s:ByteArray}(h:NoB s.data.toList):NoB (Qa1 sl gs e v x s).data.toList:=by
 unfold Qa1;split
 ·exact h
 ·exact nob_box _
def QdE (st:List (List UInt8) × List UInt8)(b:UInt8):List (List UInt8) × List UInt8:=if b=32 then(st.1++[st.2],[]) else(st.1,st.2++[b])
def pieB (l:List UInt8):List (List UInt8) × List UInt8:=l.foldl QdE ([],[])
theorem QcC (l:List UInt8)(b:UInt8):pieB (l++[b])=QdE (pieB l) b:=by unfold pieB;rw[List.foldl_append];rfl
def cutB (l:List UInt8):List (List UInt8):=(pieB l).1++[(pieB l).2]
theorem pieB_pre (l:List UInt8):∃pre,l=pre++(pieB l).2:=by
 refine QcX (p:=fun l=>∃pre,l=pre++(pieB l).2) ⟨[],rfl⟩ (fun l b ih=>?_) l;obtain⟨pre,h⟩:=ih;rw[QcC];unfold QdE;split
 ·exact⟨l++[b],by simp⟩
 ·exact⟨pre,by rw[←List.append_assoc,←h]⟩
theorem pieB_count (l:List UInt8):(pieB l).1.length≤l.length∧(pieB l).2.length≤l.length:=by
 refine QcX (p:=fun l=>(pieB l).1.length≤l.length∧(pieB l).2.length≤l.length) ⟨Nat.le_refl _,Nat.le_refl _⟩ (fun l b ih=>?_) l;rw[QcC];unfold QdE;split
 ·simp;omega
 ·simp;omega
theorem Qdm:∀(w:List UInt8) (st:List (List UInt8) × List UInt8),NoB w→w.foldl QdE st=(st.1,st.2++w)
 |[],st,_=>by simp
 |b::w,st,h=>by
  rw[List.foldl_cons,QdE,if_neg (h b (by simp)),Qdm w _ (fun c hc=>h c (List.mem_cons_of_mem _ hc))];simp
theorem fold_tail:∀(r:List (List UInt8)) (st:List (List UInt8) × List UInt8),(∀w∈r,NoB w)→((Lib.joinTail [32] r).foldl QdE st).1++[((Lib.joinTail [32] r).foldl QdE st).2]=st.1++[st.2]++r
 |[],st,_=>by simp[Lib.joinTail]
 |w::r,st,h=>by
  have e:Lib.joinTail [32] (w::r)=[32]++(w++Lib.joinTail [32] r):=(by simp[Lib.joinTail]);rw[e,List.foldl_append,List.foldl_append,List.foldl_cons,List.foldl_nil,QdE,if_pos rfl,Qdm w _ (h w (by simp)),fold_tail r _ (fun c hc=>h c (List.mem_cons_of_mem _ hc))];simp
theorem cut_join {w:List UInt8}{r:List (List UInt8)}(h:∀x∈w::r,NoB x):cutB (Lib.join (w::r) [32])=w::r:=by
 unfold cutB pieB;rw[Lib.join_cons,List.foldl_append,Qdm w _ (h w (by simp)),fold_tail r _ (fun c hc=>h c (List.mem_cons_of_mem _ hc))];simp
def cutS (s:ByteArray):List ByteArray:=(cutB s.data.toList).map fun l=>⟨l.toArray⟩
theorem cutS_join {L:List ByteArray}(hL:L≠[])(h:∀x∈L,NoB x.data.toList):cutS (QaL L)=L:=by
 cases L with
 |nil=>exact absurd rfl hL
 |cons w r=>
  unfold cutS QaL;show(cutB (Lib.join ((w::r).map (·.data.toList)) [32]).toArray.toList).map _=_;rw[List.toList_toArray,List.map_cons,cut_join,←List.map_cons (f:=fun x:ByteArray=>x.data.toList),List.map_map]
  ·rw[List.map_congr_left (g:=id)]
   ·simp
   ·intro x _;rfl
  ·intro x hx;rw[←List.map_cons (f:=fun x:ByteArray=>x.data.toList)] at hx;obtain⟨y,hy,rfl⟩:=List.mem_map.1 hx;exact h y hy
theorem GoodB.words {m h:Int}{l:List SectP}(H:GoodB m h l){p:PageP}(hp:p∈Qae m h l):∀y∈Qau (QaA l p),1≤Qav y.s:=by
 obtain⟨t,ht,hw,-,-⟩:=H.text p hp;have e:QaA l p=t:=by unfold QaA;rw[ht];rfl
 rw[e];intro y hy;unfold Qau at hy;obtain⟨q,hq,hy⟩:=List.mem_flatten.1 hy;exact((QcO hw).w q hq y hy).1.1
theorem lineTo_nob {sl:List Seal}{gs e v:Int}{ws:List Word}{f j:Nat}(hj:j≤ws.length)(h:∀y∈ws,1≤Qav y.s):∀z∈Qan sl gs e v ws f j,NoB z.data.toList:=by
 unfold Qan;intro z hz;obtain⟨i,hi,rfl⟩:=List.mem_map.1 hz;have hl:=List.mem_range.1 hi;refine nob_show ?_;rw[List.getD_eq_getElem?_getD,qG (by omega),Option.getD_some];exact nob_width (h _ (List.getElem_mem _))
theorem may_none {G:Nat}(h:G<65536):may G 0=decide (G=0):=by
 unfold may;by_cases h0:G=0
 ·subst h0;rfl
 ·rw[decide_eq_false h0,decide_eq_false_iff_not];intro e;have h1:=congrArg BitVec.toNat e;rw[BitVec.toNat_and,BitVec.toNat_ofNat,Nat.mod_eq_of_lt (by omega),show(BitVec.ofInt 64 0).toNat=0 from by decide,Nat.and_zero] at h1;exact h0 h1.symm
theorem showS_none {sl:List Seal}(hg:∀s∈sl,0≤s.g∧s.g<16)(e v x:Int)(s:ByteArray):Qa1 sl 0 e v x s=if gset (sl.filter (onP e v x))=0 then s else box (Qav s):=by
 unfold Qa1 seeB;rw[may_none (gset_lt _ fun y hy=>(hg y (List.mem_filter.1 hy).1).2)];by_cases h:gset (sl.filter (onP e v x))=0
 ·rw[if_pos h,if_pos (decide_eq_true h)]
 ·rw[if_neg h,if_neg (by rw[decide_eq_false h];decide)]
theorem lineTo_at {sl:List Seal}{gs e v:Int}{ws:List Word}{f U q:Nat}(hq:q<(Qan sl gs e v ws f U).length)(hU:U≤ws.length):(Qan sl gs e v ws f U)[q]=Qa1 sl gs e v ((f:Int)+(q:Int)) (ws[f+q]'(by rw[QaW] at hq;omega)).s:=by
 have h1:q<U-f:=by rw[QaW] at hq;exact hq
 simp only[Qan,List.getElem_map,List.getElem_range];rw[List.getD_eq_getElem?_getD,qG (by omega)];rfl
def LtL (p q:PageP):Prop:=p.num<q.num∨(p.num=q.num∧p.suf<q.suf)
theorem lab_k (e v num:Int)(k:Nat):∀(ps:List PageP) (suf:Int),(∀p∈QaF e v num suf (k+1) ps,p.num=num∧suf<p.suf∧p.suf≤suf+ps.length)∧(QaF e v num suf (k+1) ps).Pairwise LtL
 |[],suf=>by simp[QaF]
 |p::ps,suf=>by
  obtain⟨h1,h2⟩:=lab_k e v num k ps (suf+1);rw[Qa6,if_neg (by omega),if_neg (by omega)];refine⟨fun q hq=>?_,List.pairwise_cons.2 ⟨fun q hq=>?_,h2⟩⟩
  ·rcases List.mem_cons.1 hq with rfl|hq
   ·exact⟨rfl,by show suf<suf+1;omega,by show suf+1≤_;rw[qC];omega⟩
   ·have:=h1 q hq;rw[qC];omega
  ·have:=h1 q hq;exact .inr ⟨this.1.symm,by show suf+1<q.suf;omega⟩
theorem lab_0 (e v suf:Int):∀(ps:List PageP) (num:Int),(∀p∈QaF e v num suf 0 ps,num<p.num∧p.num≤num+ps.length∧p.suf=suf)∧(QaF e v num suf 0 ps).Pairwise LtL
 |[],num=>by simp[QaF]
 |p::ps,num=>by
  obtain⟨h1,h2⟩:=lab_0 e v suf ps (num+1);rw[Qa6,if_pos rfl,if_pos rfl];refine⟨fun q hq=>?_,List.pairwise_cons.2 ⟨fun q hq=>?_,h2⟩⟩
  ·rcases List.mem_cons.1 hq with rfl|hq
   ·exact⟨by show num<num+1;omega,by show num+1≤_;rw[qC];omega,rfl⟩
   ·have:=h1 q hq;rw[qC];omega
  ·have:=h1 q hq;exact .inl (by show num+1<q.num;omega)
theorem vers_k (m h e num:Int):∀(ts:List TextP) (k:Nat) (suf:Int) (vs:List Int),(∀p∈QaG m h e (k+1) num suf vs ts,p.num=num∧suf<p.suf)∧(QaG m h e (k+1) num suf vs ts).Pairwise LtL
 |[],k,suf,vs=>by simp[QaG]
 |t::ts,k,suf,vs=>by
  rw[QaG,if_neg (by omega),if_neg (by omega)];obtain⟨h1,h2⟩:=lab_k e (vs.headD 0) num k (Qac t.a t.b m h) suf;obtain⟨h3,h4⟩:=vers_k m h e num ts (k+1) (suf+(Qac t.a t.b m h).length) vs.tail;refine⟨fun p hp=>?_,List.pairwise_append.2 ⟨h2,h4,fun p hp q hq=>?_⟩⟩
  ·rcases List.mem_append.1 hp with hp|hp
   ·have:=h1 p hp;omega
   ·have:=h3 p hp;omega
  ·have:=h1 p hp;have:=h3 q hq;exact .inr ⟨by omega,by omega⟩
theorem vers_0 (m h e num:Int)(ts:List TextP)(vs:List Int)(ht:∀t∈ts,Qac t.a t.b m h≠[]):(∀p∈QaG m h e 0 num 0 vs ts,num<p.num∧p.num≤num+(QaC m h ⟨e,true,vs,ts⟩:Nat))∧(QaG m h e 0 num 0 vs ts).Pairwise LtL:=by
 cases ts with
 |nil=>simp[QaG]
 |cons t ts=>
  rw[QaG,if_pos rfl,if_pos rfl];obtain⟨h1,h2⟩:=lab_0 e (vs.headD 0) 0 (Qac t.a t.b m h) num;obtain⟨h3,h4⟩:=vers_k m h e (num+(Qac t.a t.b m h).length) ts 0 0 vs.tail;have hl:0<(Qac t.a t.b m h).length:=List.length_pos_iff.2 (ht t (by simp));have hpl:QaC m h ⟨e,true,vs,t::ts⟩=(Qac t.a t.b m h).length:=rfl;rw[hpl];refine⟨fun p hp=>?_,List.pairwise_append.2 ⟨h2,h4,fun p hp q hq=>?_⟩⟩
  ·rcases List.mem_append.1 hp with hp|hp
   ·have:=h1 p hp;omega
   ·have:=h3 p hp;omega
  ·have a1:=h1 p hp;have a2:=h3 q hq;rcases Int.lt_or_lt_of_ne (a:=p.num) (b:=q.num) |> fun _=>Classical.em (p.num=q.num) with h9|h9
   ·exact .inr ⟨h9,by omega⟩
   ·exact .inl (by omega)
theorem sects_lab {m h:Int}:∀(l:List SectP) (num:Int),(∀s∈l,∀t∈s.texts,Qac t.a t.b m h≠[])→(∀p∈Qaz m h num l,num<p.num)∧(Qaz m h num l).Pairwise LtL
 |[],num,_=>by simp[Qaz]
 |s::ss,num,H=>by
  rw[Qaz];obtain⟨h1,h2⟩:=vers_0 m h s.entry num s.texts s.vers (H s (by simp));obtain⟨h3,h4⟩:=sects_lab ss (num+QaC m h s) (fun x hx=>H x (by simp[hx]));have hpl:QaC m h ⟨s.entry,true,s.vers,s.texts⟩=QaC m h s:=rfl;rw[hpl] at h1;refine⟨fun p hp=>?_,List.pairwise_append.2 ⟨h2,h4,fun p hp q hq=>?_⟩⟩
  ·rcases List.mem_append.1 hp with hp|hp
   ·have:=h1 p hp;omega
   ·have:=h3 p hp;omega
  ·have:=h1 p hp;have:=h3 q hq;exact .inl (by omega)
theorem GoodB.lab {m h:Int}{l:List SectP}(H:GoodB m h l):(Qae m h l).Pairwise LtL:=(sects_lab l 0 fun s hs t ht=>Qdb ((H.s s hs).w t ht)).2
theorem show_told {sl:List Seal}{gs e v x:Int}{s:ByteArray}(h:QbX sl gs e v x=true):Qa1 sl gs e v x s=s:=by
 unfold QbX at h;unfold Qa1;rw[if_pos (Bool.and_eq_true_iff.1 h).2]
theorem show_untold {sl:List Seal}(hg:∀s∈sl,0≤s.g∧s.g<16){gs e v x:Int}{s:ByteArray}(h:QbX sl gs e v x=false):Qa1 sl gs e v x s=Qa1 sl 0 e v x s:=by
 rw[showS_none hg];unfold Qa1;by_cases h0:gset (sl.filter (onP e v x))=0
 ·rw[if_pos h0,if_pos];unfold seeB;rw[h0];exact may_zero gs
 ·rw[if_neg h0,if_neg];unfold QbX at h;rw[decide_eq_true h0,Bool.true_and] at h;rw[h];decide
theorem runs_flat (l:List (Option ByteArray)):(Qbd l).1.flatten=l.filterMap id:=by
 refine QcX (p:=fun l=>(Qbd l).1.flatten=l.filterMap id) rfl (fun l o ih=>?_) l;rw[List.filterMap_append,←ih];cases o with
 |none=>rw[QcP];simp
 |some s=>
  cases h:(Qbd l).2 with
  |true=>
   obtain⟨c,q,e,-⟩:=QbF l h;rw[QbG h e,e];simp
  |false=>rw[Qdp h];simp
def Qby (sl:List Seal)(gs e v:Int)(ws:List Word)(x:LineP)(n:Nat):List ByteArray:=(QbR sl gs e v ws x n).filterMap id
def Qa9 (l:List MarkP):List ByteArray:=l.flatMap fun m=>cutS m.words
theorem QdF {l:List MarkP}{d:Nat}(hd:d<l.length):Qa9 (l.take (d+1))=Qa9 (l.take d)++cutS l[d].words:=by
 unfold Qa9;rw[qT hd,List.flatMap_append,List.flatMap_cons,List.flatMap_nil,List.append_nil]
theorem run_nob {sl:List Seal}{gs:Int}{p:PageP}{ws:List Word}{x:LineP}{n:Nat}(h:∀y∈ws,1≤Qav y.s):∀r∈(Qbd (QbR sl gs p.entry p.ver ws x n)).1,r≠[]∧∀z∈r,NoB z.data.toList:=by
 intro r hr;obtain⟨h1,-,h3⟩:=QdQ _ r hr;refine⟨h1,fun z hz=>?_⟩;have h4:=h3 z hz;unfold QbR at h4;obtain⟨q,-,h5⟩:=List.mem_map.1 h4;unfold optW at h5;split at h5
 ·cases h5;rw[List.getD_eq_getElem?_getD];cases hq:ws[x.fr.toNat+q]? with
  |none=>intro b hb;exact absurd hb (by simp[noW])
  |some y=>exact nob_width (h y (List.mem_of_getElem? hq))
 ·cases h5
theorem flat_cut:∀(l:List (List ByteArray)) (f:List ByteArray→MarkP),(∀r,(f r).words=QaL r)→(∀r∈l,r≠[]∧∀z∈r,NoB z.data.toList)→Qa9 (l.map f)=l.flatten
 |[],_,_,_=>rfl
 |r::l,f,hf,h=>by
  have h1:=flat_cut l f hf fun r hr=>h r (List.mem_cons_of_mem _ hr)
  have h2:=h r (List.mem_cons_self ..);unfold Qa9 at h1 ⊢;rw[List.map_cons,List.flatMap_cons,h1,hf,cutS_join h2.1 h2.2,List.flatten_cons]
theorem known_all {sl:List Seal}{gs br:Int}{p:PageP}{ws:List Word}{x:LineP}{i:Nat}(h:∀y∈ws,1≤Qav y.s):Qa9 (QaK sl gs br p ws x i)=Qby sl gs p.entry p.ver ws x (x.un-x.fr).toNat:=by
 unfold QaK QbW Qby;rw[flat_cut _ _ (fun _=>rfl) (run_nob h),runs_flat]
theorem optsW_pre (sl:List Seal)(gs e v:Int)(ws:List Word)(x:LineP)(n:Nat):∀(j:Nat),∃r,QbR sl gs e v ws x (n+j)=QbR sl gs e v ws x n++r
 |0=>⟨[],by simp⟩
 |j+1=>by
  obtain⟨r,hr⟩:=optsW_pre sl gs e v ws x n j;exact⟨r++[optW sl gs e v ws x (n+j)],by rw[show n+(j+1)=(n+j)+1 by omega,Qca,hr,List.append_assoc]⟩
theorem toldW_yes {sl:List Seal}{gs e v:Int}{ws:List Word}{x:LineP}{n:Nat}(h:QbX sl gs e v (x.fr+(n:Int))=true):Qby sl gs e v ws x (n+1)=Qby sl gs e v ws x n++[(ws.getD (x.fr.toNat+n) noW).s]:=by
 unfold Qby;rw[Qca,List.filterMap_append];unfold optW;rw[if_pos h];rfl
theorem toldW_no {sl:List Seal}{gs e v:Int}{ws:List Word}{x:LineP}{n:Nat}(h:QbX sl gs e v (x.fr+(n:Int))=false):Qby sl gs e v ws x (n+1)=Qby sl gs e v ws x n:=by
 unfold Qby;rw[Qca,List.filterMap_append];unfold optW;rw[if_neg (by rw[h];decide)];simp
theorem toldW_len (sl:List Seal)(gs e v:Int)(ws:List Word)(x:LineP)(n:Nat):(Qby sl gs e v ws x n).length≤n:=by
 unfold Qby;have:=List.length_filterMap_le id (QbR sl gs e v ws x n);rwa [Qdt] at this
theorem toldW_at {sl:List Seal}{gs e v:Int}{ws:List Word}{x:LineP}{n N:Nat}(hn:n<N)(h:QbX sl gs e v (x.fr+(n:Int))=true):∃hl:(Qby sl gs e v ws x n).length<(Qby sl gs e v ws x N).length,(Qby sl gs e v ws x N)[(Qby sl gs e v ws x n).length]=(ws.getD (x.fr.toNat+n) noW).s:=by
 obtain⟨r,hr⟩:=optsW_pre sl gs e v ws x (n+1) (N-(n+1));rw[show n+1+(N-(n+1))=N by omega] at hr;have e1:Qby sl gs e v ws x N=Qby sl gs e v ws x n++((ws.getD (x.fr.toNat+n) noW).s::r.filterMap id):=by
  have:Qby sl gs e v ws x N=Qby sl gs e v ws x (n+1)++r.filterMap id:=by
   unfold Qby;rw[hr,List.filterMap_append]
  rw[this,toldW_yes h,List.append_assoc];rfl
 refine⟨by rw[e1,qA,qC];omega,?_⟩;simp only[e1];rw[List.getElem_append_right nL];simp
/-! The marks of a line stand together,and those behind them are of another line or page. -/
def hitM (p:PageP)(k:Nat)(m:MarkP):Prop:=(m.num=p.num∧m.suf=p.suf)∧m.line=(k:Int)+1
theorem marksL_hit {sl:List Seal}{gs br:Int}{p:PageP}{ws:List Word}{x:LineP}{i:Nat}:∀m∈QaK sl gs br p ws x i,hitM p i m:=by
 unfold QaK QbW;intro m hm;obtain⟨r,-,rfl⟩:=List.mem_map.1 hm;exact⟨⟨rfl,rfl⟩,rfl⟩
theorem QcV {sl:List Seal}{gs br:Int}{p:PageP}{ws:List Word}:∀(l:List LineP) (i:Nat),∀m∈Qax sl gs br p ws i l,(m.num=p.num∧m.suf=p.suf)∧(i:Int)+1≤m.line
 |[],_=>by simp[Qax]
 |x::l,i=>by
  intro m hm;rw[Qax] at hm;rcases List.mem_append.1 hm with hm|hm
  ·have h1:=marksL_hit m hm;exact⟨h1.1,by have:=h1.2;omega⟩
  ·have h1:=QcV l (i+1) m hm;exact⟨h1.1,by have:=h1.2;omega⟩
theorem annexB_hit {l:List SectP}{sl:List Seal}{gs br:Int}{ps:List PageP}:∀m∈Qao l sl gs br ps,∃p∈ps,m.num=p.num∧m.suf=p.suf:=by
 unfold Qao;intro m hm;obtain⟨p,hp,hm⟩:=List.mem_flatMap.1 hm;exact⟨p,hp,(QcV _ _ m hm).1⟩
def Qa2 (l:List SectP)(sl:List Seal)(gs br:Int)(ps:List PageP)(i k:Nat):Nat:=match ps[i]? with
 |none=>(Qao l sl gs br ps).length
 |some p=>(Qao l sl gs br (ps.take i)).length+(Qax sl gs br p (Qau (QaA l p)) 0 ((p.body++p.notes).take k)).length
section
variable {l:List SectP} {sl:List Seal} {gs br:Int} {ps:List PageP} {i k:Nat}
theorem markN_0:Qa2 l sl gs br ps 0 0=0:=by
 unfold Qa2;cases h:ps[0]? with
 |none=>
  cases ps with
  |nil=>rfl
  |cons=>simp at h
 |some p=>simp[Qao,Qax]
theorem markN_line (hi:i<ps.length)(hk:k<(ps[i].body++ps[i].notes).length):Qa2 l sl gs br ps i (k+1)=Qa2 l sl gs br ps i k+(QaK sl gs br ps[i] (Qau (QaA l ps[i])) (ps[i].body++ps[i].notes)[k] k).length:=by
 unfold Qa2;rw[qG hi];dsimp only;rw[Qcl sl gs br ps[i] _ hk,qA];omega
theorem markN_page (hi:i<ps.length):Qa2 l sl gs br ps i (ps[i].body++ps[i].notes).length=Qa2 l sl gs br ps (i+1) 0:=by
 have e0:Qa2 l sl gs br ps i (ps[i].body++ps[i].notes).length=(Qao l sl gs br (ps.take (i+1))).length:=by
  unfold Qa2;rw[qG hi];dsimp only;rw[List.take_length,QbK l sl gs br hi,qA];rfl
 rw[e0];unfold Qa2;cases h:ps[i+1]? with
 |none=>
  have:=List.getElem?_eq_none_iff.1 h;dsimp only;rw[List.take_of_length_le this]
 |some p=>simp[Qax]
theorem markN_end (hi:i=ps.length):Qa2 l sl gs br ps i 0=(Qao l sl gs br ps).length:=by
 unfold Qa2;rw[List.getElem?_eq_none (by omega)]
theorem Qcm (hi:i<ps.length)(hk:k<(ps[i].body++ps[i].notes).length):∃A,A.length=Qa2 l sl gs br ps i k∧Qao l sl gs br ps=A++(QaK sl gs br ps[i] (Qau (QaA l ps[i])) (ps[i].body++ps[i].notes)[k] k++(Qax sl gs br ps[i] (Qau (QaA l ps[i])) (k+1) ((ps[i].body++ps[i].notes).drop (k+1))++Qao l sl gs br (ps.drop (i+1)))):=by
 refine⟨Qao l sl gs br (ps.take i)++Qax sl gs br ps[i] (Qau (QaA l ps[i])) 0 ((ps[i].body++ps[i].notes).take k),?_,?_⟩
 ·unfold Qa2;rw[qG hi,qA]
 ·have h1:Qao l sl gs br ps=Qao l sl gs br (ps.take (i+1))++Qao l sl gs br (ps.drop (i+1)):=by
   unfold Qao;rw[←List.flatMap_append,List.take_append_drop]
  have h2:QbU sl gs br ps[i] (Qau (QaA l ps[i]))=Qax sl gs br ps[i] (Qau (QaA l ps[i])) 0 ((ps[i].body++ps[i].notes).take (k+1))++Qax sl gs br ps[i] (Qau (QaA l ps[i])) (k+1) ((ps[i].body++ps[i].notes).drop (k+1)):=by
   unfold QbU;have h3:=Qb7 sl gs br ps[i] (Qau (QaA l ps[i])) ((ps[i].body++ps[i].notes).take (k+1)) ((ps[i].body++ps[i].notes).drop (k+1)) 0;rw[List.take_append_drop,qK,Nat.min_eq_left (by omega),Nat.zero_add] at h3;exact h3
  rw[h1,QbK l sl gs br hi,h2,Qcl sl gs br ps[i] _ hk];simp only[List.append_assoc]
theorem annex_at (hi:i<ps.length)(hk:k<(ps[i].body++ps[i].notes).length){d:Nat}(hd:d<(QaK sl gs br ps[i] (Qau (QaA l ps[i])) (ps[i].body++ps[i].notes)[k] k).length):(Qao l sl gs br ps)[Qa2 l sl gs br ps i k+d]? =some (QaK sl gs br ps[i] (Qau (QaA l ps[i])) (ps[i].body++ps[i].notes)[k] k)[d]:=by
 obtain⟨A,hA,e⟩:=Qcm (l:=l) (sl:=sl) (gs:=gs) (br:=br) hi hk;rw[e,←hA,List.getElem?_append_right (by omega),Nat.add_sub_cancel_left,List.getElem?_append_left hd,qG hd]
theorem annex_out (hL:ps.Pairwise LtL)(hi:i<ps.length)(hk:k<(ps[i].body++ps[i].notes).length){m:MarkP}(hm:(Qao l sl gs br ps)[Qa2 l sl gs br ps i k+(QaK sl gs br ps[i] (Qau (QaA l ps[i])) (ps[i].body++ps[i].notes)[k] k).length]? =some m):¬hitM ps[i] k m:=by
 obtain⟨A,hA,e⟩:=Qcm (l:=l) (sl:=sl) (gs:=gs) (br:=br) hi hk;rw[e,←hA,List.getElem?_append_right (by omega),Nat.add_sub_cancel_left,List.getElem?_append_right nL,Nat.sub_self] at hm;have hm:=List.mem_of_getElem? hm;intro h;rcases List.mem_append.1 hm with hm|hm
 ·have:=(QcV _ _ m hm).2;have:=h.2;omega
 ·obtain⟨q,hq,h1⟩:=annexB_hit m hm;obtain⟨j,hj,rfl⟩:=List.mem_iff_getElem.1 hq;rw[List.length_drop] at hj;rw[List.getElem_drop] at h1;have h2:=List.pairwise_iff_getElem.1 hL i (i+1+j) hi (by omega) (by omega);unfold LtL at h2;have h3:=h.1;omega
theorem markN_le (hi:i<ps.length)(hk:k<(ps[i].body++ps[i].notes).length):Qa2 l sl gs br ps i k+(QaK sl gs br ps[i] (Qau (QaA l ps[i])) (ps[i].body++ps[i].notes)[k] k).length≤(Qao l sl gs br ps).length:=by
 obtain⟨A,hA,e⟩:=Qcm (l:=l) (sl:=sl) (gs:=gs) (br:=br) hi hk;rw[e,←hA,qA,qA];omega
end
theorem lineTo_more {sl:List Seal}{gs e v:Int}{ws:List Word}{f j:Nat}:Qan sl gs e v ws f (f+(j+1))=Qan sl gs e v ws f (f+j)++[Qa1 sl gs e v ((f:Int)+(j:Int)) (ws.getD (f+j) noW).s]:=by
 unfold Qan;rw[show f+(j+1)-f=j+1 by omega,show f+j-f=j by omega,List.range_succ,List.map_append];rfl
theorem marks_pack {l:List SectP}{sl:List Seal}{gs br:Int}{ps:List PageP}{i:Nat}{p:PageP}{ls:List LineP}{ws:List Word}(hL:ps.Pairwise LtL)(hp:ps[i]? =some p)(hls:p.body++p.notes=ls)(hws:Qau (QaA l p)=ws):
 (∀j (hj:j<ls.length),(∀d (hd:d<(QaK sl gs br p ws ls[j] j).length),(Qao l sl gs br ps)[Qa2 l sl gs br ps i j+d]? =some (QaK sl gs br p ws ls[j] j)[d])∧ (∀m,(Qao l sl gs br ps)[Qa2 l sl gs br ps i j+(QaK sl gs br p ws ls[j] j).length]? =some m→¬hitM p j m)∧ Qa2 l sl gs br ps i j+(QaK sl gs br p ws ls[j] j).length≤(Qao l sl gs br ps).length∧ Qa2 l sl gs br ps i (j+1)=Qa2 l sl gs br ps i j+(QaK sl gs br p ws ls[j] j).length)∧
 Qa2 l sl gs br ps i ls.length=Qa2 l sl gs br ps (i+1) 0:=by
 obtain⟨hi,rfl⟩:=List.getElem?_eq_some_iff.1 hp;subst hls;subst hws;exact⟨fun j hj=>⟨fun d hd=>annex_at hi hj hd,fun m hm=>annex_out hL hi hj hm,markN_le hi hj,markN_line hi hj⟩,markN_page hi⟩
theorem marksL_size {sl:List Seal}{gs br:Int}{p:PageP}{ws:List Word}{x:LineP}{i:Nat}(hw:∀y∈ws,y.s.size≤1000):∀m∈QaK sl gs br p ws x i,m.words.size≤1001*(x.un-x.fr).toNat:=by
 unfold QaK QbW;intro m hm;obtain⟨r,hr,rfl⟩:=List.mem_map.1 hm;obtain⟨-,h2,h3⟩:=QdQ _ r hr;rw[Qdt] at h2
 have h4:=QbC r fun z hz=>by
  have h5:=h3 z hz;unfold QbR at h5;obtain⟨q,-,h6⟩:=List.mem_map.1 h5;unfold optW at h6;split at h6
  ·cases h6;rw[List.getD_eq_getElem?_getD];cases hq:ws[x.fr.toNat+q]? with
   |none=>exact Nat.zero_le _
   |some y=>exact hw y (List.mem_of_getElem? hq)
  ·cases h6
 exact Nat.le_trans h4 (Nat.mul_le_mul_left _ h2)
theorem knownM_pre (l:List MarkP)(d:Nat):(Qa9 (l.take d)).length≤(Qa9 l).length:=by
 have:Qa9 l=Qa9 (l.take d)++Qa9 (l.drop d):=by
  unfold Qa9;rw[←List.flatMap_append,List.take_append_drop]
 rw[this,qA];omega
theorem knownM_one (l:List MarkP){d:Nat}(hd:d<l.length):(cutS l[d].words).length≤(Qa9 l).length:=by
 have h1:=knownM_pre l (d+1);rw[QdF hd,qA] at h1;omega
theorem line_pack {sl:List Seal}{gs br:Int}{p:PageP}{ws:List Word}{f nf k:Nat}{gaps notes:List Int}{ml:List MarkP}(hw:∀y∈ws,y.s.size≤1000)(h1:∀y∈ws,1≤Qav y.s) (hm:QaK sl gs br p ws ⟨(f:Int),((f+nf:Nat):Int),gaps,notes⟩ k=ml) {T:Nat→List ByteArray} (hT:Qby sl gs p.entry p.ver ws ⟨(f:Int),((f+nf:Nat):Int),gaps,notes⟩=T):
 (∀m∈ml,hitM p k m)∧(∀m∈ml,m.words.size≤1001*nf)∧ml.length≤nf∧Qa9 ml=T nf∧T 0=[]∧(∀q,(T q).length≤q)∧
 (∀q:Nat,q<nf→QbX sl gs p.entry p.ver ((f:Int)+(q:Int))=true→(∃hl:(T q).length<(T nf).length,(T nf)[(T q).length]=(ws.getD (f+q) noW).s)∧(T (q+1)).length=(T q).length+1)∧
 (∀q:Nat,QbX sl gs p.entry p.ver ((f:Int)+(q:Int))=false→T (q+1)=T q):=by
 subst hm;subst hT;have e:(((f+nf:Nat):Int)-(f:Int)).toNat=nf:=by omega
 refine⟨marksL_hit,?_,?_,?_,rfl,fun q=>toldW_len ..,fun q hq ht=>⟨toldW_at hq ht,?_⟩,fun q ht=>toldW_no ht⟩
 ·intro m hm;have:=marksL_size hw m hm;dsimp only at this;rwa [e] at this
 ·have:=marksW_len sl gs br p ws ⟨(f:Int),((f+nf:Nat):Int),gaps,notes⟩ k nf;unfold QaK;dsimp only;rwa [e]
 ·rw[known_all h1];dsimp only;rw[e]
 ·rw[toldW_yes ht,qA,List.length_singleton]
structure RuI (w0:World)(vo vr:Value)(lo:List MarkP)(lr:List ByteArray)(w:World):Prop where
 o:Own w w0.heap.size 61 vo lo
 r:Own w w0.heap.size 9 vr lr
 b:Below w0.heap.size w0 w
theorem lit_str {w:World}{b:Nat}{x:ByteArray}{S:Nat→Prop}(h:w.heap[b]? =some (.cells #[.string x] 9 (0,0)))(hx:x.size≤maxLen)(hS:S b):Sl w S (some ⟨b,0,none⟩) 1 [x]:=
 Sl.block (l:=[x]) h hS (by simp[maxLen]) (fun i hi=>by
  obtain rfl:i=0:=by simpa using hi
  exact⟨rfl,hx⟩)
section
variable {sl:List Seal} {gs:Int} {p:PageP} {ws:List Word} {x:LineP} {k:Nat}
end
def mkB (l:List UInt8):ByteArray:=⟨l.toArray⟩
def outB (s:List UInt8)(k:Nat):List ByteArray:=(if k≤s.length then(pieB (s.take k)).1 else cutB s).map mkB
theorem pie_ext (s:ByteArray){k c:Nat}(hk:k≤s.size)(hc:c+(pieB (s.data.toList.take k)).2.length=k):s.extract c k=mkB (pieB (s.data.toList.take k)).2:=by
 obtain⟨pre,hp⟩:=pieB_pre (s.data.toList.take k);have h1:pre.length=c:=by
  have:=congrArg List.length hp;rw[qK,qA,Array.length_toList] at this;have h2:s.data.size=s.size:=rfl;omega
 apply ByteArray.ext;apply Array.toList_inj.1;unfold mkB;rw[ByteArray.data_extract,Array.toList_extract,List.extract_eq_take_drop,←List.drop_take];rw[hp];have hq:=hp;rw[List.drop_append_of_le_length (by omega),List.drop_of_length_le (by omega),List.nil_append];rw[←hp]
theorem outB_next {s:List UInt8}{k:Nat}(hk:k<s.length):outB s (k+1)=if s[k]=32 then outB s k++[mkB (pieB (s.take k)).2] else outB s k:=by
 have e1:k+1≤s.length:=by omega
 have e2:k≤s.length:=by omega
 simp only[outB,if_pos e1,if_pos e2];rw[qT hk,QcC];unfold QdE;split
 ·rw[List.map_append];rfl
 ·rfl
theorem outB_last (s:List UInt8):outB s (s.length+1)=outB s s.length++[mkB (pieB (s.take s.length)).2]:=by
 unfold outB;rw[if_neg (by omega),if_pos nL,List.take_length];unfold cutB;rw[List.map_append];rfl
theorem pie_next {s:List UInt8}{k:Nat}(hk:k<s.length):(pieB (s.take (k+1))).2.length=if s[k]=32 then 0 else(pieB (s.take k)).2.length+1:=by
 rw[qT hk,QcC];unfold QdE;split
 ·rfl
 ·simp
set_option maxRecDepth 100000 in
theorem cut_any (s:ByteArray)(hs:s.size≤1100000000)(w:World):Calls Tryz.prog 28 #[.string s] w fun e w'=>∃v,e=.returned v∧Own w' w.heap.size 9 v (cutS s)∧Below w.heap.size w w':=by
 obtain⟨n,hn⟩:∃n,s.size=n:=⟨_,rfl⟩;have HN:=Lh hn;have HNL:Hid (s.data.toList.length=n):=Lh (by rw[Array.length_toList];exact hn);rw[hn] at hs;go_enter Tryz.func28,Tryz.ntmps28;go_wp2_with fail;go_loopw [3,4,5] (fun vo fr i wr=>∃k:Nat,k≤n+1∧i=.int .i64 (k:Int)∧(∃c:Nat,fr=.int .i64 (c:Int)∧(k≤n→c+(pieB (s.data.toList.take k)).2.length=k))∧Hid (Own wr w.heap.size 9 vo (outB s.data.toList k))∧Hid (Below w.heap.size w wr)) (fun _ _ i _=>n+1-(intOf i).toNat);(case atStart=>exact⟨0,Nat.zero_le _,rfl,⟨0,rfl,fun _=>rfl⟩,Lh (by unfold outB;rw[if_pos (Nat.zero_le _)];exact Own.nil _ _ _),Lh bR⟩);case round=>
  obtain⟨k,hk,rfl,⟨c,rfl,hc⟩,HO,HB⟩:=hrel;have HC:=Lh hc;clear hc;by_cases hlt:k≤n
  ·have hle:(k:Int)≤(n:Int):=by omega
   go_upto_region 6 with(fail);have hck:=HC.out hlt;have HXT:=Lh (pie_ext s (k:=k) (c:=c) (by omega) hck);have HXZ:Hid ((s.extract c k).size≤maxLen):=Lh (by rw[ByteArray.size_extract];unfold maxLen;omega)
   have HOL:Hid ((outB s.data.toList k).length≤1100000001):=Lh (by
    unfold outB
    rw[if_pos (by rw[HNL.out];exact hlt),qM]
    have h1:=(pieB_count (s.data.toList.take k)).1
    rw[qK] at h1
    omega)
   have hc1:(c:Int)≤(k:Int):=(by omega);have hc0:c≤k:=(by omega);by_cases hkn:k<n
   ·have hke:((k:Int)==(n:Int))=false:=beq_eq_false_iff_ne.2 (by omega);have hkI:(k:Int)<(n:Int):=(by omega);have hks:k<s.size:=(by omega);have hkL:k<s.data.toList.length:=(by rw[HNL.out];exact hkn);have hbe:s.data.toList[k]=s[k]:=(by simp[ByteArray.getElem_eq_getElem_data]);have HNX:Hid (outB s.data.toList (k+1)=if s[k]=32 then outB s.data.toList k++[mkB (pieB (s.data.toList.take k)).2] else outB s.data.toList k):=Lh (by rw[outB_next hkL,hbe]);have HPN:Hid ((pieB (s.data.toList.take (k+1))).2.length=if s[k]=32 then 0 else(pieB (s.data.toList.take k)).2.length+1):=Lh (by rw[pie_next hkL,hbe]);clear hbe;by_cases hb:s[k]=32
    ·have hb1:((s[k].toNat:Int)==32)=true:=by rw[hb];rfl
     rw[if_pos hb] at HNX HPN;clear hb hck
     go_wp2_with (first|(at_builtin;refine Qaw (α:=ByteArray) _ rfl (.tmp 22) (.tmp 27) 44 rfl w.heap.size 9 (.string ⟨#[]⟩) 16 Tryz.underlying44 Qbi rfl (by decide) _ _ rfl (HO.out.alloc _) (some ⟨wr.heap.size,0,none⟩) 1 1 [s.extract c k] rfl rfl (fun b=>b=wr.heap.size) (lit_str (heap_alloc_new wr _) HXZ.out rfl) (fun i hi _ e=>by have h4:i=wr.heap.size:=hi;have:=(HO.out.lt i e.symm).2;omega) (by have:=HOL.out;omega) (by have:=HOL.out;omega) (by have:=HB.out.size;simp;omega) ?_;intro v2 w2 hown2 hg2 hat2;have HON:=Lh hown2;have HBN:Hid (Below w.heap.size w w2):=Lh ((HB.out.alloc HB.out.size _).grown hg2 (by have:=HB.out.size;simp;omega) (fun r hr=>(HO.out.lt r hr).1));clear hown2 hg2 hat2)|fail)
     go_roundw;(case rel=>exact⟨k+1,by omega,by go_num,⟨k+1,by go_num,fun _=>by rw[HPN.out]⟩,Lh (by rw[HNX.out,←HXT.out];exact HON.out),HBN⟩);case measure=>(first|(simp[intOf];done)|(simp[intOf];omega))
    ·have hb1:((s[k].toNat:Int)==32)=false:=beq_eq_false_iff_ne.2 (fun e=>hb (by
      apply UInt8.toNat_inj.1
      have h2:(32:UInt8).toNat=32:=rfl
      omega))
     rw[if_neg hb] at HNX HPN;clear hb;go_wp2_with fail;go_roundw;(case rel=>exact⟨k+1,by omega,by go_num,⟨c,rfl,fun _=>by rw[HPN.out];have:=HC.out hlt;omega⟩,Lh (by rw[HNX.out];exact HO.out),HB⟩);case measure=>(first|(simp[intOf];done)|(simp[intOf];omega))
   ·obtain rfl:k=n:=by omega
    have hke:((k:Int)==(k:Int))=true:=(by simp);have HNX:=Lh (outB_last s.data.toList);rw[HNL.out] at HNX;clear hck
    go_wp2_with (first|(at_builtin;refine Qaw (α:=ByteArray) _ rfl (.tmp 22) (.tmp 27) 44 rfl w.heap.size 9 (.string ⟨#[]⟩) 16 Tryz.underlying44 Qbi rfl (by decide) _ _ rfl (HO.out.alloc _) (some ⟨wr.heap.size,0,none⟩) 1 1 [s.extract c k] rfl rfl (fun b=>b=wr.heap.size) (lit_str (heap_alloc_new wr _) HXZ.out rfl) (fun i hi _ e=>by have h4:i=wr.heap.size:=hi;have:=(HO.out.lt i e.symm).2;omega) (by have:=HOL.out;omega) (by have:=HOL.out;omega) (by have:=HB.out.size;simp;omega) ?_;intro v2 w2 hown2 hg2 hat2;have HON:=Lh hown2;have HBN:Hid (Below w.heap.size w w2):=Lh ((HB.out.alloc HB.out.size _).grown hg2 (by have:=HB.out.size;simp;omega) (fun r hr=>(HO.out.lt r hr).1));clear hown2 hg2 hat2)|fail)
    go_roundw;(case rel=>exact⟨k+1,by omega,by go_num,⟨k+1,by go_num,fun h=>by omega⟩,Lh (by rw[HNX.out,←HXT.out];exact HON.out),HBN⟩);case measure=>(first|(simp[intOf];done)|(simp[intOf];omega))
  ·obtain rfl:k=n+1:=by omega
   have hle:¬((n+1:Nat):Int)≤(n:Int):=by omega
   have HOF:Hid (Own wr w.heap.size 9 u3 (cutS s)):=Lh (by
    have h1:=HO.out
    unfold outB at h1
    rw[if_neg (by rw[HNL.out];omega)] at h1
    exact h1)
   go_wp2_with fail;go_ret;exact⟨_,rfl,HOF.out,HB.out⟩

def SP.full {α:Type}[Rep α](B:Nat)(e:TypeId)(l:List α):SP:=⟨fun v w=>(∃A,v=.slice A l.length l.length)∧Own w B e v l,fun _ _ _ h hb=>⟨h.1,h.2.below hb⟩⟩
section
variable {P:Program} {α:Type} [Rep α]
theorem own_sl2 {w:World}{base n c:Nat}{e:TypeId}{A:Option Addr}{l:List α}(h:Own w base e (.slice A n c) l):n=l.length∧Sl w (fun b=>b<w.heap.size) A c l:=by
 obtain⟨A',c',e',hs⟩:=h.sl;cases e';exact⟨rfl,hs⟩
theorem run_none (w:World)(base:Nat)(t ty e:TypeId)(z:Value)(bytes:Nat)(ht:P.underlying t=some (.slice e))(hinfo:(P.info? e).map (fun i=>(i.zero,i.size,i.bytes))=some (some z,Rep.size α,bytes)) (v:Value) (l:List α) (hown:Own w base e v l) (A:Option Addr) (c:Nat):(Builtin.append_ #[t,t] ty #[v,.slice A 0 c]).run P w=.ok v w:=by
 obtain⟨i,hi,hz,hz1,hz2⟩:=info_parts hinfo;obtain⟨xs,hx1,ho1,hr1⟩:=id hown;rcases A with _|a
 ·rcases hx1.2 with⟨rfl,r2⟩|⟨g,cap,cur,rfl,_,_,hnc,_⟩
  ·simp[Builtin.append_,run_underlying ht,sizeOf,typeInfo,hi,Builtin.lenOf,Builtin.firstCells]
  ·simp[Builtin.append_,run_underlying ht,sizeOf,typeInfo,hi,Builtin.lenOf,Builtin.firstCells,hnc,storeCells]
 ·rcases hx1.2 with⟨rfl,r2⟩|⟨g,cap,cur,rfl,_,_,hnc,_⟩
  ·simp[Builtin.append_,run_underlying ht,sizeOf,typeInfo,hi,Builtin.lenOf,Builtin.firstCells,loadCells,loadCellsFrom]
  ·simp[Builtin.append_,run_underlying ht,sizeOf,typeInfo,hi,Builtin.lenOf,Builtin.firstCells,hnc,storeCells,loadCells,loadCellsFrom]
theorem wp_catF {o:Oper}{a:Act}{K:Act→World→Prop}{Q:Exit→Act→World→Prop}{w:World}(s x:Operand)(t:TypeId) (ho:o.op=.call {callee:=.builtin .append,args:=#[s,x],argTypes:=#[t,t]}) (base:Nat) (e:TypeId) (z:Value) (bytes:Nat) (ht:P.underlying t=some (.slice e)) (hinfo:(P.info? e).map (fun i=>(i.zero,i.size,i.bytes))=some (some z,Rep.size α,bytes)) (hzs:z.cells.size=Rep.size α) (hsz:0<Rep.size α) (A:Option Addr) (n:Nat) (l:List α) (hs:a.eval s=.slice A n n) (hown:Own w base e (.slice A n n) l) (A':Option Addr) (c m:Nat) (l':List α) (hx:a.eval x=.slice A' m c) (hm:l'.length=m) (hl':Sl w (fun b=>b<w.heap.size) A' c l') (hbytes:(n+m)*bytes≤140737488355328) (hml:n+m≤9223372036854775807) (hbase:base≤w.heap.size) (h:∀v' w',Own w' base e v' (l++l')→Below w.heap.size w w'→K (a.put o.dst v') w'):o.wp P a w K Q:=by
 obtain⟨hn,hl⟩:=own_sl2 hown;by_cases h0:0<m
 ·exact wp_fresh s x t ho e z bytes ht hinfo hzs hsz A n l hs hn.symm hl A' c m l' hx hm hl' h0 hbytes hml fun v' w' h2 h3=>h v' w' (h2.re hbase) h3
 ·obtain rfl:m=0:=by omega
  obtain rfl:l'=[]:=List.eq_nil_of_length_eq_zero hm;have hrun:=run_none (P:=P) w base t o.type e z bytes ht hinfo _ l hown A' c;unfold Oper.wp execOp;simp only[ho,resolve,invoke,builtin,Sem.run_bind,Sem.run_pure,Result.andThen_ok,List.map_toArray,List.map_cons,List.map_nil,hs,hx,hrun];exact h _ _ (by rw[List.append_nil];exact hown) bR
end
end Go.Proofs.YtegaapiocihcpaaGreatDoor
