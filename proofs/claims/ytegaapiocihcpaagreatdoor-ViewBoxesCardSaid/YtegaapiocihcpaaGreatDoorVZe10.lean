/- Texts of VwCBx. -/
import Derived.Test.YtegaapiocihcpaaGreatDoorVZe9
import Derived.Deep.Slices
import Derived.Deep.Fields
import Derived.ChangeSame
import Derived.ChangeMaps5
import Derived.OpenShut
set_option maxHeartbeats 16000000
namespace Go.Proofs.YtegaapiocihcpaaGreatDoor
open Go.RowKit
theorem lxS_sl {w:World}{b:Nat}(h:ABox w b 118 [.int .i64 5,.int .i64 7,.int .i64 1,.int .i64 3,.int .i64 3]){S:Nat→Prop}(hS:S b):Sl w S (some ⟨b,0,none⟩) 1 lxS:=
 Sl.block (l:=lxS) h hS (by decide) (fun i hi=>by
  obtain rfl:i=0:=by simpa[lxS] using hi
  exact⟨rfl,show(⟨5,7,1,3,3⟩:Seal).ok from by refine⟨?_,?_,?_,?_,?_⟩<;>exact⟨by decide,by decide⟩⟩)
theorem lxN_sl {w:World}{b:Nat}(h:ABox w b 118 [.int .i64 5,.int .i64 7,.int .i64 2,.int .i64 3,.int .i64 2]){S:Nat→Prop}(hS:S b):Sl w S (some ⟨b,0,none⟩) 1 [(⟨5,7,2,3,2⟩:Seal)]:=
 Sl.block (l:=[(⟨5,7,2,3,2⟩:Seal)]) h hS (by decide) (fun i hi=>by
  obtain rfl:i=0:=by simpa using hi
  exact⟨rfl,show(⟨5,7,2,3,2⟩:Seal).ok from by refine⟨?_,?_,?_,?_,?_⟩<;>exact⟨by decide,by decide⟩⟩)
structure LvI (W1 w:World)(b0 bb:Nat)(Ab:Option Addr)(cb:Nat):Prop where
 b:Below W1.heap.size W1 w
 tx:ABox w (b0+1+1) 36 [.slice (some ⟨b0+1,0,none⟩) 1 1,.slice none 0 0]
 ts:Sl w (fun b=>b<w.heap.size) (some ⟨b0+1,0,none⟩) 1 [lxW]
 bx:ABox w bb 25 [.int .i64 500,.int .i64 10,.slice Ab lx.length cb]
 sm:SM w Ab cb lx
theorem LvI.to {W1 w w':World}{b0 bb:Nat}{Ab:Option Addr}{cb:Nat}(h:LvI W1 w b0 bb Ab cb)(hb:Below w.heap.size w w'):LvI W1 w' b0 bb Ab cb:=⟨h.b.trans (hb.mono h.b.size),h.tx.to hb,h.ts.to hb,h.bx.to hb,h.sm.to hb⟩
theorem LvI.ok {W1 w:World}{b0 bb:Nat}{Ab:Option Addr}{cb:Nat}(h:LvI W1 w b0 bb Ab cb):BookOk w 500 10 Ab cb lx:=⟨h.sm.t.1,h.sm.s,lx_ok.2.1,lx_ok.2.2,⟨by decide,by decide⟩,Nat.le_trans lx_len (by decide)⟩
theorem lx_heq:∀s∈lx,s.texts.length=s.vers.length:=by decide
theorem lxS_g:∀s∈lxS,0≤s.g∧s.g<16:=by decide
theorem lxM_g:∀s∈lxM,0≤s.g∧s.g<16:=by decide
theorem ok_lxW:∀x∈QaB ⟨[lxW],[]⟩,x.s.size≤1000:=by decide
theorem lx_short:Qbj [lxW]∧Qbj []:=by decide +kernel
theorem lx_add {w:World}{A1:Option Addr}(hT:Tabs w)(ht:Sl w (fun b=>b<w.heap.size) A1 1 [lxW]):
 Calls Tryz.prog 61 #[.agg #[.int .i64 500,.int .i64 10,.slice none 0 0],.int .i64 5,.int .i64 7,.agg #[.slice A1 1 1,.slice none 0 0]] w fun e w'=>∃A c,e=.returned (.tuple #[.agg #[.int .i64 500,.int .i64 10,.slice A lx.length c],.int .i64 0])∧SM w' A c lx∧Below w.heap.size w w':=by
 have e1:([]++[(⟨5,false,[7],[⟨[lxW],[]⟩]⟩:SectP)])=lx:=rfl;have h:=add_ok none 0 [] 500 10 5 7 A1 none 1 0 [lxW] [] w hT.1 (Sl.nil _ _ _ _ (by simp[maxLen])) lx_ok.1.1 lx_ok.1.2 ⟨by decide,by decide⟩ ht (Sl.nil _ _ _ _ (by simp[maxLen])) lx_short.1 lx_short.2 lx_find (by decide) (by decide) lx_wrong (by decide) (by rw[e1];exact Nat.le_trans lx_len (by decide));rw[e1] at h;refine h.mono ?_;rintro x V2 ⟨u,rfl,ho,hb⟩;obtain⟨Ab,cb,rfl,hs,-⟩:=ho.sm hT hb;exact⟨Ab,cb,by rw[fits_ok (Nat.le_trans lx_len (by decide))],hs,hb⟩
set_option maxRecDepth 100000 in
theorem lives32_any (W1:World)(hT:Tabs W1):Calls Tryz.prog 20 #[] W1 fun e w'=>e=.returned (.bool true)∧Below W1.heap.size W1 w':=by
 have HT:=Lh hT;clear hT;go_enter Tryz.func20,Tryz.ntmps20;go_upto_region 2 with(fail);obtain⟨b0,hb0⟩:∃q,W1.heap.size=q:=⟨_,rfl⟩;obtain⟨W2,hW2⟩:∃W2,((W1.alloc (.cells #[.string ⟨#[111,110,101]⟩,.string ⟨#[]⟩,.int .i64 0,.int .i64 0,.string ⟨#[116,119,111]⟩,.string ⟨#[]⟩,.int .i64 0,.int .i64 0,.string ⟨#[116,104,114,101,101]⟩,.string ⟨#[]⟩,.int .i64 0,.int .i64 0,.string ⟨#[102,111,117,114]⟩,.string ⟨#[]⟩,.int .i64 0,.int .i64 0] 66)).alloc (.cells #[.slice (some ⟨W1.heap.size,0,none⟩) 4 4] 110)).alloc (.cells #[.slice (some ⟨W1.heap.size+1,0,none⟩) 1 1,.slice none 0 0] 36)=W2:=⟨_,rfl⟩;rw[hW2];have hba:Below W1.heap.size W1 W2:=by rw[←hW2];exact((bR.alloc nL _).alloc (by simp) _).alloc (by simp;omega) _
 have hx0:ABox W2 W1.heap.size 66 [.string ⟨#[111,110,101]⟩,.string ⟨#[]⟩,.int .i64 0,.int .i64 0,.string ⟨#[116,119,111]⟩,.string ⟨#[]⟩,.int .i64 0,.int .i64 0,.string ⟨#[116,104,114,101,101]⟩,.string ⟨#[]⟩,.int .i64 0,.int .i64 0,.string ⟨#[102,111,117,114]⟩,.string ⟨#[]⟩,.int .i64 0,.int .i64 0]:=by rw[←hW2];exact(Below.heap_alloc _ _ _ (by first|(simp;done)|(simp;omega))).trans ((Below.heap_alloc _ _ _ (by simp)).trans (heap_alloc_new W1 _))
 have hx1:ABox W2 (W1.heap.size+1) 110 [.slice (some ⟨W1.heap.size,0,none⟩) 4 4]:=by rw[←hW2];exact(Below.heap_alloc _ _ _ (by simp)).trans (Qal (by simp))
 have hx2:ABox W2 (W1.heap.size+1+1) 36 [.slice (some ⟨W1.heap.size+1,0,none⟩) 1 1,.slice none 0 0]:=by rw[←hW2];exact Qal (by simp)
 have hts:=lx_sl hx0 hx1;rw[hb0] at hts hx2 ⊢;have HBA:=Lh hba;have HTX:=Lh hx2;have HTS:=Lh hts;have HT2:=Lh (HT.out.to hba);clear hW2 hba hx0 hx1 hx2 hts hb0;have y0:=HTX.out.cell 0 rfl;have y1:=HTX.out.cell 1 rfl;have HAD:=Lh (lx_add HT2.out HTS.out)
 go_upto_region 3 with(first|(go_at_call 61;refine HAD.out.mono ?_;rintro x V2 ⟨Ab,cb,rfl,hs,hb⟩;have HSM:=Lh hs;have HB2:=Lh hb;clear hs hb y0 y1 HAD)|fail)
 obtain⟨W3,hW3⟩:∃W3,V2.alloc (.cells #[.int .i64 500,.int .i64 10,.slice Ab lx.length cb] 25)=W3:=⟨_,rfl⟩;obtain⟨bb,hbb⟩:∃q,V2.heap.size=q:=⟨_,rfl⟩
 have HI:Hid (LvI W1 W3 b0 bb Ab cb):=Lh (by
  have h1:Below V2.heap.size V2 W3:=(by rw[←hW3];exact bR.alloc nL _)
  have h2:Below W2.heap.size W2 W3:=HB2.out.trans (h1.mono HB2.out.size)
  exact⟨HBA.out.trans (h2.mono HBA.out.size),HTX.out.to h2,HTS.out.to h2,by rw[←hW3,←hbb];exact heap_alloc_new V2 _,HSM.out.to h1⟩)
 (try rw[hW3]);(try rw[hbb]);clear hW3 hbb HBA HTX HTS HT2 HSM HB2;have q0:=HI.out.bx.cell 0 rfl;have q1:=HI.out.bx.cell 1 rfl;have q2:=HI.out.bx.cell 2 rfl
 go_upto_region 4 with(first|(go_at_call 26;refine(QbO HI.out.ok).mono ?_;rintro e W4 ⟨v,R,rfl,ho,-,hb⟩;rw[Qc3] at ho;obtain⟨Ap,cp,rfl,hs⟩:=ho.plain.sl;have HP4:=Lh hs;have HI4:=Lh (HI.out.to hb);clear ho hs hb q0 q1 q2 HI)|fail)
 go_upto_region 5 with(fail);obtain⟨W5,hW5⟩:∃W5,W4.alloc (.cells #[.int .i64 5,.int .i64 7,.int .i64 1,.int .i64 3,.int .i64 3] 118)=W5:=⟨_,rfl⟩;obtain⟨bs,hbs⟩:∃q,W4.heap.size=q:=⟨_,rfl⟩;have h1:Below W4.heap.size W4 W5:=by rw[←hW5];exact bR.alloc nL _
 have HI5:=Lh (HI4.out.to h1);have HP5:=Lh (HP4.out.to h1);have HX5:Hid (ABox W5 bs 118 [.int .i64 5,.int .i64 7,.int .i64 1,.int .i64 3,.int .i64 3]):=Lh (by rw[←hW5,←hbs];exact heap_alloc_new W4 _);rw[hW5,hbs];clear hW5 hbs h1 HI4 HP4;have HOW0:Hid (Own (W5.alloc (.cells #[] 118)) W5.heap.size 118 (.slice (some ⟨W5.heap.size,0,none⟩) 0 0) ([]:List Seal)):=Lh (Own.made W5 W5.heap.size _ nL);have HB50:Hid (Below W5.heap.size W5 (W5.alloc (.cells #[] 118))):=Lh (bR.alloc nL _)
 go_upto_region 6 with(first|(at_builtin;refine Qav (α:=Seal) _ rfl (.tmp 29) (.tmp 30) 26 rfl W5.heap.size 118 (.agg #[.int .i64 0,.int .i64 0,.int .i64 0,.int .i64 0,.int .i64 0]) 40 Tryz.underlying26 QbP rfl (by decide) _ [] rfl HOW0.out (some ⟨bs,0,none⟩) 1 1 lxS rfl rfl (fun b=>b=bs) (lxS_sl (HX5.out.to HB50.out) rfl) (fun i hi _ e=>by have h1:=HX5.out.lt;have h2:some i=some W5.heap.size:=e;have h3:=Option.some.inj h2;have h4:i=bs:=hi;omega) (by decide) (by decide) HB50.out.size ?_;intro v2 w2 hown2 hg2 hat2;have HB51:Hid (Below W5.heap.size W5 w2):=Lh (HB50.out.grown hg2 HB50.out.size (fun r hr=>by have h2:some W5.heap.size=some r:=hr;have h3:=Option.some.inj h2;omega));obtain⟨A2,c2,rfl,-⟩:=hown2.form;have HOW1:Hid (Own w2 W5.heap.size 118 (.slice A2 1 c2) lxS):=Lh hown2;clear hown2 hg2 hat2)|(at_builtin;refine Qav (α:=Seal) _ rfl (.tmp 31) (.tmp 33) 26 rfl W5.heap.size 118 (.agg #[.int .i64 0,.int .i64 0,.int .i64 0,.int .i64 0,.int .i64 0]) 40 Tryz.underlying26 QbP rfl (by decide) _ lxS rfl (HOW1.out.alloc _) (some ⟨w2.heap.size,0,none⟩) 1 1 [(⟨5,7,2,3,2⟩:Seal)] rfl rfl (fun b=>b=w2.heap.size) (lxN_sl (heap_alloc_new w2 _) rfl) (fun i hi _ e=>by have h4:i=w2.heap.size:=hi;have:=(HOW1.out.lt i e.symm).2;omega) (by decide) (by decide) (by have:=HB51.out.size;simp;omega) ?_;intro v3 w3 hown3 hg3 hat3;have HB52:Hid (Below W5.heap.size W5 w3):=Lh ((HB51.out.alloc HB51.out.size _).grown hg3 (by have:=HB51.out.size;simp;omega) (fun r hr=>(HOW1.out.lt r hr).1));obtain⟨A3,c3,rfl,-⟩:=hown3.form;have HOW2:Hid (Own w3 W5.heap.size 118 (.slice A3 2 c3) lxM):=Lh hown3;clear hown3 hg3 hat3)|fail)
 have e1:lxS.length+1=2:=rfl;rw[e1];clear e1;have HI6:=Lh (HI5.out.to HB52.out);have HP6:=Lh (HP5.out.to HB52.out);have HX6:=Lh (HX5.out.to HB52.out)
 have HM6:Hid (Sl w3 (fun b=>b<w3.heap.size) A3 c3 lxM):=Lh (by
  obtain⟨A,c,e,h⟩:=HOW2.out.sl
  cases e
  exact h)
 clear HI5 HP5 HX5 HOW0 HOW1 HOW2 HB50 HB51 HB52;obtain⟨bp,op,A1,c1,A4,c4,rfl,-,hlp,p0,p1,p2,p3,p4,p5,hs1,hs2⟩:=pageS_at HP6.out (k:=0) (by decide);obtain⟨bl,ol,Ag,cg,An,cn,rfl,-,hll,l0,l1,l2,l3,hsg,hsn⟩:=Qbx hs1 (k:=0) (by decide)
 have HPC:Hid (∀W,Below w3.heap.size w3 W→W.cell? ⟨bp,op,none⟩=some (.int .i64 1)∧W.cell? ⟨bp,op+1,none⟩=some (.int .i64 0)∧W.cell? ⟨bp,op+2,none⟩=some (.int .i64 5)∧W.cell? ⟨bp,op+3,none⟩=some (.int .i64 7)∧W.cell? ⟨bp,op+4,none⟩=some (.slice (some ⟨bl,ol,none⟩) 1 c1)∧W.cell? ⟨bp,op+5,none⟩=some (.slice A4 0 c4)∧ W.cell? ⟨bl,ol,none⟩=some (.int .i64 0)∧W.cell? ⟨bl,ol+1,none⟩=some (.int .i64 4)∧W.cell? ⟨bl,ol+2,none⟩=some (.slice Ag 3 cg)∧W.cell? ⟨bl,ol+3,none⟩=some (.slice An 0 cn)):=Lh fun W hW=>
  ⟨(hW.cell (p:=⟨bp,op,none⟩) hlp).trans p0,(hW.cell (p:=⟨bp,op+1,none⟩) hlp).trans p1,(hW.cell (p:=⟨bp,op+2,none⟩) hlp).trans p2,(hW.cell (p:=⟨bp,op+3,none⟩) hlp).trans p3,(hW.cell (p:=⟨bp,op+4,none⟩) hlp).trans p4,(hW.cell (p:=⟨bp,op+5,none⟩) hlp).trans p5,(hW.cell (p:=⟨bl,ol,none⟩) hll).trans l0,(hW.cell (p:=⟨bl,ol+1,none⟩) hll).trans l1,(hW.cell (p:=⟨bl,ol+2,none⟩) hll).trans l2,(hW.cell (p:=⟨bl,ol+3,none⟩) hll).trans l3⟩
 clear p0 p1 p2 p3 p4 p5 l0 l1 l2 l3 hs1 hs2 hsg hsn HP6;have p4:=(HPC.out w3 bR).2.2.2.2.1;go_upto_region 8 with(fail);clear p4;have HWD:=Lh (fun(s:ByteArray)=>Qbi s w3 HI6.out.sm.t.1);have HBX:=Lh (fun(n:Int) (hn:I64 n) (W:World) (hW:Below w3.heap.size w3 W)=>Qcs n hn W (HI6.out.sm.t.to hW));have HE:=Lh lx_box
 go_upto_region 9 with(first|(go_at_call 33;refine(Qbi _ w3 HI6.out.sm.t.1).mono ?_;rintro e w' ⟨rfl,rfl⟩)|(go_at_call 32;refine(Qcs _ (QbL _) w3 HI6.out.sm.t).mono ?_;rintro e W7 ⟨rfl,hb⟩;rw[HE.out.1];have HI7:=Lh (HI6.out.to hb);have HB7:=Lh hb;clear hb)|fail)
 go_upto_region 10 with(first|(go_at_call 33;refine(Qbi _ W7 HI7.out.sm.t.1).mono ?_;rintro e w' ⟨rfl,rfl⟩)|(go_at_call 32;refine(Qcs _ (QbL _) W7 HI7.out.sm.t).mono ?_;rintro e W8 ⟨rfl,hb⟩;rw[HE.out.2];have HI8:=Lh (HI7.out.to hb);have HB8:=Lh (HB7.out.trans (hb.mono HB7.out.size));clear hb)|fail)
 have HPV:=Lh (lx_good.pv);have HPL:Hid ((Qae 500 10 lx).length≤1048576):=Lh (Nat.le_trans lx_len (by decide));have HSS:Hid (∀W,Below w3.heap.size w3 W→Sl W (fun b=>b<W.heap.size) (some ⟨bs,0,none⟩) 1 lxS):=Lh fun W hW=>lxS_sl (HX6.out.to hW) (by have:=HX6.out.lt;have:=hW.size;show bs<W.heap.size;omega)
 have HSH:Hid (∀W,Below w3.heap.size w3 W→LvI W1 W b0 bb Ab cb→Calls Tryz.prog 16 #[.agg #[.int .i64 500,.int .i64 10,.slice Ab lx.length cb],.slice (some ⟨bs,0,none⟩) 1 1] W fun r W'=>∃v,r=.returned v∧Own W' W.heap.size 46 v [(⟨⟨#[49]⟩,[⟨#[111,110,101,32,91,50,54,93,32,91,51,54,93,32,102,111,117,114]⟩],[]⟩:SheetP)]∧Below W.heap.size W W'):=Lh fun W hW hl=>by
  have:=sheets_any (some ⟨bs,0,none⟩) 1 1 lxS hl.ok hl.sm.t lx_heq HPV.out HPL.out (HSS.out W hW) rfl (by decide) lxS_g;rwa [lx_sheets] at this
 have HAX:Hid (∀W,Below w3.heap.size w3 W→LvI W1 W b0 bb Ab cb→Calls Tryz.prog 22 #[.agg #[.int .i64 500,.int .i64 10,.slice Ab lx.length cb],.int .i64 2,.slice (some ⟨bs,0,none⟩) 1 1,.int .i64 8] W fun r W'=>∃v,r=.returned v∧Own W' W.heap.size 61 v [(⟨2,1,0,1,⟨#[116,119,111,32,116,104,114,101,101]⟩⟩:MarkP)]∧Below W.heap.size W W'):=Lh fun W hW hl=>by
  have:=annex_any 2 8 (some ⟨bs,0,none⟩) 1 1 lxS hl.ok hl.sm.t lx_heq HPV.out HPL.out (by rw[lx_annex];decide) (HSS.out W hW) rfl (by decide) lxS_g;rwa [lx_annex] at this
 have HAY:Hid (∀W,Below w3.heap.size w3 W→LvI W1 W b0 bb Ab cb→Calls Tryz.prog 22 #[.agg #[.int .i64 500,.int .i64 10,.slice Ab lx.length cb],.int .i64 2,.slice (some ⟨bs,0,none⟩) 1 1,.int .i64 4] W fun r W'=>∃A c,r=.returned (.slice A 0 c)∧Below W.heap.size W W'):=Lh fun W hW hl=>by
  have h:=annex_any 2 4 (some ⟨bs,0,none⟩) 1 1 lxS hl.ok hl.sm.t lx_heq HPV.out HPL.out (by rw[lx_annex0];decide) (HSS.out W hW) rfl (by decide) lxS_g;rw[lx_annex0] at h;refine h.mono ?_;rintro r W' ⟨v,rfl,ho,hb⟩;obtain⟨A,c,rfl,-⟩:=ho.form;exact⟨A,c,rfl,hb⟩
 have q0:=HI8.out.bx.cell 0 rfl;have q1:=HI8.out.bx.cell 1 rfl;have q2:=HI8.out.bx.cell 2 rfl
 go_upto_region 11 with(first|(go_at_call 16;refine(HSH.out W8 HB8.out HI8.out).mono ?_;rintro r W9 ⟨v,rfl,ho,hb⟩;obtain⟨A9,c9,rfl,hs,-,hc9,-⟩:=ho.parts;have HS9:=Lh hs;have HI9:=Lh (HI8.out.to hb);have HB9:=Lh (HB8.out.trans (hb.mono HB8.out.size));clear ho hs hb q0 q1 q2)|fail)
 have q0:=HI9.out.bx.cell 0 rfl;have q1:=HI9.out.bx.cell 1 rfl;have q2:=HI9.out.bx.cell 2 rfl
 go_upto_region 12 with(first|(go_at_call 22;refine(HAX.out W9 HB9.out HI9.out).mono ?_;rintro r W10 ⟨v,rfl,ho,hb⟩;obtain⟨A10,c10,rfl,hs,-,hc10,-⟩:=ho.parts;have HS10:=Lh hs;have HI10:=Lh (HI9.out.to hb);have HB10:=Lh (HB9.out.trans (hb.mono HB9.out.size));have HT9:=Lh (HS9.out.to hb);clear ho hs hb q0 q1 q2)|fail)
 obtain⟨b9,o9,A11,c11,A12,c12,rfl,-,hl9,s0,s1,s2,hs11,hs12⟩:=sheetP_at HT9.out (k:=0) (by decide);obtain⟨b11,o11,rfl,-,hl11,-,s3⟩:=str_at hs11 (k:=0) (by decide);obtain⟨b10,o10,rfl,-,hl10,m0,m1,m2,m3,m4⟩:=mark_at HS10.out (k:=0) (by decide);have HMC:Hid (∀W,Below W10.heap.size W10 W→(W.cell? ⟨b9,o9,none⟩=some (.string ⟨#[49]⟩)∧W.cell? ⟨b9,o9+1,none⟩=some (.slice (some ⟨b11,o11,none⟩) 1 c11)∧W.cell? ⟨b11,o11,none⟩=some (.string ⟨#[111,110,101,32,91,50,54,93,32,91,51,54,93,32,102,111,117,114]⟩))∧W.cell? ⟨b10,o10,none⟩=some (.int .i64 2)∧W.cell? ⟨b10,o10+1,none⟩=some (.int .i64 1)∧W.cell? ⟨b10,o10+2,none⟩=some (.int .i64 0)∧W.cell? ⟨b10,o10+3,none⟩=some (.int .i64 1)∧W.cell? ⟨b10,o10+4,none⟩=some (.string ⟨#[116,119,111,32,116,104,114,101,101]⟩)):=Lh fun W hW=>
  ⟨⟨(hW.cell (p:=⟨b9,o9,none⟩) hl9).trans s0,(hW.cell (p:=⟨b9,o9+1,none⟩) hl9).trans s1,(hW.cell (p:=⟨b11,o11,none⟩) hl11).trans s3⟩,(hW.cell (p:=⟨b10,o10,none⟩) hl10).trans m0,(hW.cell (p:=⟨b10,o10+1,none⟩) hl10).trans m1,(hW.cell (p:=⟨b10,o10+2,none⟩) hl10).trans m2,(hW.cell (p:=⟨b10,o10+3,none⟩) hl10).trans m3,(hW.cell (p:=⟨b10,o10+4,none⟩) hl10).trans m4⟩
 clear s0 s1 s2 s3 m0 m1 m2 m3 m4 hs11 hs12 HS9 HS10 HT9;have q0:=HI10.out.bx.cell 0 rfl;have q1:=HI10.out.bx.cell 1 rfl;have q2:=HI10.out.bx.cell 2 rfl;have s1:=(HMC.out W10 bR).1.2.1
 go_upto_region 14 with(first|(go_at_call 22;refine(HAY.out W10 HB10.out HI10.out).mono ?_;rintro r W11 ⟨A13,c13,rfl,hb⟩;have HI11:=Lh (HI10.out.to hb);have HB11:=Lh (HB10.out.trans (hb.mono HB10.out.size));have HBx:=Lh hb;clear hb q0 q1 q2 s1)|fail)
 have m0:=(HMC.out W11 HBx.out).2.1;have m1:=(HMC.out W11 HBx.out).2.2.1;have m2:=(HMC.out W11 HBx.out).2.2.2.1;have m3:=(HMC.out W11 HBx.out).2.2.2.2.1;have m4:=(HMC.out W11 HBx.out).2.2.2.2.2;go_upto_region 15 with(fail);clear m0 m1 m2 m3 m4;have hj1:([111,110,101,32,91,50,54,93,32,91,51,54,93,32,102,111,117,114]==((⟨#[111,110,101,32]⟩:ByteArray)++(⟨#[91,50,54,93]⟩:ByteArray)++(⟨#[32]⟩:ByteArray)++(⟨#[91,51,54,93]⟩:ByteArray)++(⟨#[32,102,111,117,114]⟩:ByteArray)).toList)=true:=by decide +kernel
 have hj2:([111,110,101,32,116,119,111,32,91,51,54,93,32,102,111,117,114]==((⟨#[111,110,101,32,116,119,111,32]⟩:ByteArray)++(⟨#[91,51,54,93]⟩:ByteArray)++(⟨#[32,102,111,117,114]⟩:ByteArray)).toList)=true:=by decide +kernel
 have HLN:Hid (∀W,Below w3.heap.size w3 W→LvI W1 W b0 bb Ab cb→Calls Tryz.prog 24 #[.agg #[.int .i64 1,.int .i64 0,.int .i64 5,.int .i64 7,.slice (some ⟨bl,ol,none⟩) 1 c1,.slice A4 0 c4],.agg #[.int .i64 0,.int .i64 4,.slice Ag 3 cg,.slice An 0 cn],.agg #[.slice (some ⟨b0+1,0,none⟩) 1 1,.slice none 0 0],.slice A3 2 c3,.int .i64 8] W fun r W'=>r=.returned (.string ⟨#[111,110,101,32,116,119,111,32,91,51,54,93,32,102,111,117,114]⟩)∧Below W.heap.size W W'):=Lh fun W hW hl=>by
  have h:=vline_any 1 0 5 7 (some ⟨bl,ol,none⟩) A4 1 c1 0 c4 0 4 Ag An 3 cg 0 cn (some ⟨b0+1,0,none⟩) none 1 0 [lxW] [] A3 c3 2 lxM 8 W hl.ts (Sl.nil _ _ _ _ (by simp[maxLen])) (by decide) (by decide) (by decide) ok_lxW (HM6.out.to hW) rfl (by decide) lxM_g hl.sm.t (by decide) (by decide);rw[show QaB ⟨[lxW],[]⟩=lxW from rfl,lx_line] at h;exact h
 refine Qah [35] (fun i=>if i=35 then SP.val (.string ⟨#[111,110,101,32,116,119,111,32,91,51,54,93,32,102,111,117,114]⟩) else SP.any) 42 (by kernel_rfl) (by kernel_rfl) ?_;intro T _ g hg hgm;have e0:∀d,(g d).cell? ⟨b9,o9,none⟩=some (.string ⟨#[49]⟩):=fun d=>(HMC.out (g d) (HBx.out.trans ((hg d).mono HBx.out.size))).1.1
 have e1:∀d,(g d).cell? ⟨b9,o9+1,none⟩=some (.slice (some ⟨b11,o11,none⟩) 1 c11):=fun d=>(HMC.out (g d) (HBx.out.trans ((hg d).mono HBx.out.size))).1.2.1
 have e2:∀d,(g d).cell? ⟨b11,o11,none⟩=some (.string ⟨#[111,110,101,32,91,50,54,93,32,91,51,54,93,32,102,111,117,114]⟩):=fun d=>(HMC.out (g d) (HBx.out.trans ((hg d).mono HBx.out.size))).1.2.2
 have HPD:Hid (∀d,Below w3.heap.size w3 (g d)):=Lh fun d=>HB11.out.trans ((hg d).mono HB11.out.size)
 have p0:∀d,(g d).cell? ⟨bp,op,none⟩=some (.int .i64 1):=fun d=>(HPC.out (g d) (HPD.out d)).1
 have p1:∀d,(g d).cell? ⟨bp,op+1,none⟩=some (.int .i64 0):=fun d=>(HPC.out (g d) (HPD.out d)).2.1
 have p2:∀d,(g d).cell? ⟨bp,op+2,none⟩=some (.int .i64 5):=fun d=>(HPC.out (g d) (HPD.out d)).2.2.1
 have p3:∀d,(g d).cell? ⟨bp,op+3,none⟩=some (.int .i64 7):=fun d=>(HPC.out (g d) (HPD.out d)).2.2.2.1
 have p4:∀d,(g d).cell? ⟨bp,op+4,none⟩=some (.slice (some ⟨bl,ol,none⟩) 1 c1):=fun d=>(HPC.out (g d) (HPD.out d)).2.2.2.2.1
 have p5:∀d,(g d).cell? ⟨bp,op+5,none⟩=some (.slice A4 0 c4):=fun d=>(HPC.out (g d) (HPD.out d)).2.2.2.2.2.1
 have l0:∀d,(g d).cell? ⟨bl,ol,none⟩=some (.int .i64 0):=fun d=>(HPC.out (g d) (HPD.out d)).2.2.2.2.2.2.1
 have l1:∀d,(g d).cell? ⟨bl,ol+1,none⟩=some (.int .i64 4):=fun d=>(HPC.out (g d) (HPD.out d)).2.2.2.2.2.2.2.1
 have l2:∀d,(g d).cell? ⟨bl,ol+2,none⟩=some (.slice Ag 3 cg):=fun d=>(HPC.out (g d) (HPD.out d)).2.2.2.2.2.2.2.2.1
 have l3:∀d,(g d).cell? ⟨bl,ol+3,none⟩=some (.slice An 0 cn):=fun d=>(HPC.out (g d) (HPD.out d)).2.2.2.2.2.2.2.2.2
 have t0:∀d,(g d).cell? ⟨b0+1+1,0,none⟩=some (.slice (some ⟨b0+1,0,none⟩) 1 1):=fun d=>(HI11.out.to (hg d)).tx.cell 0 rfl
 have t1:∀d,(g d).cell? ⟨b0+1+1,1,none⟩=some (.slice none 0 0):=fun d=>(HI11.out.to (hg d)).tx.cell 1 rfl
 (repeat(refine Qaf (by rfl) fun Kq hq=>?_;go_big_quiet_step (fail);refine wpQuiet_nil (hq _ ?_);clear hq Kq));refine Qam (by rfl) (by rfl) (fun d hG K Q hK=>?_) (fun v d hG hp Kr hr=>?_)
 ·go_simp;go_at_call 24;refine(HLN.out (g d) (HPD.out d) (HI11.out.to (hg d))).mono ?_;rintro e W1 ⟨rfl,hb1⟩;go_simp;exact hK _ _ hb1 (rfl)
 have hp:v=.string ⟨#[111,110,101,32,116,119,111,32,91,51,54,93,32,102,111,117,114]⟩:=hp;subst hp;(try clear hp);clear hG;go_frame;refine hr _ ?_;clear hr Kr;(repeat(refine Qaf (by rfl) fun Kq hq=>?_;go_big_quiet_step (fail);refine wpQuiet_nil (hq _ ?_);clear hq Kq));refine wpR_end (by kernel_rfl) (fun d hG=>?_) _;have HBd:=Lh (hg d);clear hG hg hgm;unfold Exit.then;go_wp2_with fail;go_ret;exact⟨rfl,HI11.out.b.trans (HBd.out.mono HI11.out.b.size)⟩
def TxtQ (P:Nat→Prop)(o:Option TextP)(e:Ending)(W':World):Prop:=∃Aa ca Ab cb,e=.returned (.tuple #[.agg #[.slice Aa (o.getD ⟨[],[]⟩).a.length ca,.slice Ab (o.getD ⟨[],[]⟩).b.length cb],.bool o.isSome])∧Sl W' P Aa ca (o.getD ⟨[],[]⟩).a∧Sl W' P Ab cb (o.getD ⟨[],[]⟩).b
theorem TxtQ.no {P:Nat→Prop}{o:Option TextP}(W':World)(h:o=none):TxtQ P o (.returned (.tuple #[.agg #[.slice none 0 0,.slice none 0 0],.bool false])) W':=by
 subst h;exact⟨none,0,none,0,rfl,Sl.nil _ _ _ _ (Nat.zero_le _),Sl.nil _ _ _ _ (Nat.zero_le _)⟩
theorem TxtQ.yes {P:Nat→Prop}{o:Option TextP}{z:TextP}{W':World}{Aa Ab:Option Addr}{ca cb:Nat}(h:o=some z)(h1:Sl W' P Aa ca z.a)(h2:Sl W' P Ab cb z.b):TxtQ P o (.returned (.tuple #[.agg #[.slice Aa z.a.length ca,.slice Ab z.b.length cb],.bool true])) W':=by
 subst h;exact⟨Aa,ca,Ab,cb,rfl,h1,h2⟩
set_option maxRecDepth 100000 in
theorem rtextAtQ_any {m h:Int}{A:Option Addr}{c:Nat}{l:List SectP}{w:World}(P:Nat→Prop)(hs:Sl w P A c l)(hsh:Qa9 l)(heq:∀s∈l,s.texts.length=s.vers.length)(entry ver:Int):
 Calls Tryz.prog 18 #[.agg #[.int .i64 m,.int .i64 h,.slice A l.length c],.int .i64 entry,.int .i64 ver] w fun e W'=>TxtQ P (QcT l entry ver) e W'∧Below w.heap.size w W':=by
 obtain⟨wb,hwb⟩:∃wb,(w.alloc (.cells #[.int .i64 m,.int .i64 h,.slice A l.length c] 25)).alloc (.cells #[.slice none 0 0,.slice none 0 0] 36)=wb:=⟨_,rfl⟩;have hba:Below w.heap.size w wb:=by rw[←hwb];exact(bR.alloc nL _).alloc (by simp) _
 have hx0:ABox wb w.heap.size 25 [.int .i64 m,.int .i64 h,.slice A l.length c]:=by rw[←hwb];exact(Below.heap_alloc _ _ _ (by simp)).trans (heap_alloc_new w _)
 have hx1:ABox wb (w.heap.size+1) 36 [.slice none 0 0,.slice none 0 0]:=by rw[←hwb];exact Qal (by simp)
 have HF:=Lh (rfind_any A c l m h entry wb ((hs.mono (S':=fun b=>b<w.heap.size) fun _ _ hl=>hl).to hba) (by have:=hsh.1;omega));have hsz:wb.heap.size=w.heap.size+2:=by rw[←hwb];simp
 have HZ:=Lh hsz;have HB:=Lh hba;have HX0:=Lh hx0;have HX1:=Lh hx1;have HS:=Lh hs;have HQ:=Lh heq;have HSH:=Lh hsh;have hlc:l.length≤c:=hs.1;have x0:=hx0.cell 0 rfl;have x1:=hx0.cell 1 rfl;have x2:=hx0.cell 2 rfl;clear hba hx0 hx1 hsz hs heq hsh;go_enter Tryz.func18,Tryz.ntmps18;go_upto_region 1 with(fail);(try rw[hwb]);clear hwb
 go_upto_region 2 with(first|(go_at_call 57;refine HF.out.mono ?_;rintro e w1 ⟨rfl,hb1⟩;have HB1:=Lh hb1;clear hb1 x0 x1 x2)|fail)
 have HX1w:=Lh (HX1.out.to HB1.out);have HX0w:=Lh (HX0.out.to HB1.out);have HBA:Hid (Below w.heap.size w w1):=Lh (HB.out.trans (HB1.out.mono HB.out.size));have HZ1:Hid (w.heap.size+2≤w1.heap.size):=Lh (by have:=HB1.out.size;have:=HZ.out;omega);clear HF HB1 HX1 HX0 HB;rcases Qby l entry with hf|⟨k,hk,hf,hfe⟩
 ·have HN:=Lh (QcE (v:=ver) hf);rw[hf];have z0:=HX1w.out.cell 0 rfl;have f0:=HX1w.out.fz 0;have z1:=(HX1w.out.set 0 (.slice none 0 0)).cell 1 rfl;have f1:=(HX1w.out.set 0 (.slice none 0 0)).fz 1;clear hf;go_wp2_with fail
  exact bodyPost_ret (v:=.tuple #[.agg #[.slice none 0 0,.slice none 0 0],.bool false]) (Qag Tryz.results18 _ _ (w.heap.size+1) _ #[.slice none 0 0,.slice none 0 0] (0,0) _ rfl (abox2 HX1w.out _ _) Tryz.underlying36 rfl (by kernel_rfl)) rfl ⟨TxtQ.no _ HN.out,Qct HBA.out (by omega) _ _⟩
 ·obtain⟨b,o,Ag,cg,An,cn,rfl,-,hbl,e0,e1,e2,e3,hg1,hn1,-⟩:=Qca HS.out hk;have hqe:=HQ.out _ (List.getElem_mem hk);have hshx:=HSH.out.2 _ (List.getElem_mem hk);obtain⟨x,hx⟩:∃x,l[k]=x:=⟨_,rfl⟩;rw[hx] at e0 e1 e2 e3 hg1 hn1 hqe hshx;have HNO:Hid (QdA x.vers ver= -1→QcT l entry ver=none):=Lh (fun h1=>Qcz hf hk hx (by omega) h1);have HYES:Hid (∀j (hj:j<x.texts.length),QdA x.vers ver=(j:Int)→QcT l entry ver=some x.texts[j]):=Lh (fun j hj h1=>Qc8 hf hk hx hj h1);have k0:=(HBA.out.cell (p:=⟨b,o+k*4,none⟩) hbl).trans e0;have k1:=(HBA.out.cell (p:=⟨b,o+k*4+1,none⟩) hbl).trans e1;have k2:=(HBA.out.cell (p:=⟨b,o+k*4+2,none⟩) hbl).trans e2;have k3:=(HBA.out.cell (p:=⟨b,o+k*4+3,none⟩) hbl).trans e3;have x2:=HX0w.out.cell 2 rfl;have HG1:=Lh hg1;have HN1:=Lh hn1;have HV:Hid (x.texts.length=x.vers.length∧x.vers.length≤1048576):=Lh ⟨hqe,hshx.1⟩;obtain⟨nv,hnv⟩:∃nv,x.vers.length=nv:=⟨_,rfl⟩;obtain⟨nt,hnt⟩:∃nt,x.texts.length=nt:=⟨_,rfl⟩;have HNV:=Lh hnv;have HNT:=Lh hnt;have hgc:nv≤cg:=(by rw[←hnv];exact hg1.1);have hnc:nt≤cn:=(by rw[←hnt];exact hn1.1);have hn9:nv≤1048576:=(by rw[←hnv];exact hshx.1);have HTV:Hid (nt=nv):=Lh (by rw[←hnv,←hnt];exact hqe);rw[hnv] at k2;rw[hnt] at k3;rw[hf];have hkI:¬(k:Int)<0:=(by omega);have hkL:(k:Int)<(l.length:Int):=(by omega);clear hf hfe e0 e1 e2 e3 hg1 hn1 hqe hshx hx hnv hnt;obtain⟨O,hO⟩:∃O,w1.heap.size=O:=⟨_,rfl⟩;obtain⟨ws,hws⟩:∃ws,w1.alloc (.cells #[.int .i64 x.entry,.bool x.frozen,.slice Ag nv cg,.slice An nt cn] 74)=ws:=⟨_,rfl⟩;have hbs:Below w1.heap.size w1 ws:=(by rw[←hws];exact bR.alloc nL _);have hxs:ABox ws O 74 [.int .i64 x.entry,.bool x.frozen,.slice Ag nv cg,.slice An nt cn]:=(by rw[←hws,←hO];exact heap_alloc_new w1 _);have HXS:=Lh hxs;have HX1s:=Lh (HX1w.out.to hbs);have HBs:Hid (Below w.heap.size w ws):=Lh (HBA.out.trans (hbs.mono HBA.out.size));go_upto_region 5 with(fail);(try rw[hO]);(try rw[hws]);clear hO hws hbs hxs k0 k1 k2 k3 x2;go_wp2_with fail;go_loopw [10] (fun i wr=>∃q:Nat,q≤nv∧i=.int .i64 q∧Hid (∀i (hi:i<x.vers.length),i<q→x.vers[i]≠ver)∧wr=ws) (fun i _=>nv-(intOf i).toNat);(case atStart=>exact⟨0,Nat.zero_le _,rfl,Lh (fun i hi h=>absurd h (Nat.not_lt_zero _)),rfl⟩);case round=>
   obtain⟨q,hq,rfl,HN,rfl⟩:=hrel;obtain⟨ws,rfl⟩:∃ws:World,ws=wr:=⟨_,rfl⟩;have s2:=HXS.out.cell 2 rfl;have s3:=HXS.out.cell 3 rfl;by_cases hlt:q<nv
   ·have hql:q<x.vers.length:=by rw[HNV.out];exact hlt
    have hqt:q<x.texts.length:=(by rw[HNT.out,HTV.out];exact hlt);obtain⟨bv,ov,rfl,-,-,-,ev⟩:=Qbu (HG1.out.keep (Kept.all HBs.out) HBs.out.size) hql;obtain⟨y,hy⟩:∃y,x.vers[q]=y:=⟨_,rfl⟩;rw[hy] at ev;have HY:=Lh hy;have hqI:(q:Int)<(nv:Int):=(by omega);have hqT:(q:Int)<(nt:Int):=(by rw[HTV.out];exact hqI);clear hy;by_cases hyv:y=ver
    ·have hyes:=HYES.out q hqt (idxP_hit hql (by rw[HY.out];exact hyv) (fun i hi=>HN.out i (by omega) hi));obtain⟨bt,ot,Aa,ca,Ab,cb,rfl,-,hbt,t0',t1',ht1,ht2⟩:=Qdc HN1.out hqt;obtain⟨z,hz⟩:∃z,x.texts[q]=z:=⟨_,rfl⟩;rw[hz] at t0' t1' ht1 ht2 hyes;have t0:=(HBs.out.cell (p:=⟨bt,ot+q*2,none⟩) hbt).trans t0';have t1:=(HBs.out.cell (p:=⟨bt,ot+q*2+1,none⟩) hbt).trans t1';have HBF:=Lh (Qct HBs.out (b:=w.heap.size+1) (by omega) (.slice Aa z.a.length ca) (.slice Ab z.b.length cb));have HYE:=Lh hyes;have HT1:=Lh ht1;have HT2:=Lh ht2;have z0:=HX1s.out.cell 0 rfl;have f0:=HX1s.out.fz 0;have z1:=(HX1s.out.set 0 (.slice Aa z.a.length ca)).cell 1 rfl;have f1:=(HX1s.out.set 0 (.slice Aa z.a.length ca)).fz 1;clear hz hyes ht1 ht2 t0' t1' hbt;go_wp2_with fail
     refine bodyPost_ret (v:=.tuple #[.agg #[.slice Aa z.a.length ca,.slice Ab z.b.length cb],.bool true]) (Qag Tryz.results18 _ _ (w.heap.size+1) _ #[.slice Aa z.a.length ca,.slice Ab z.b.length cb] (0,0) _ rfl (abox2 HX1s.out _ _) Tryz.underlying36 rfl (by kernel_rfl)) rfl ⟨TxtQ.yes HYE.out (HT1.out.keep (Kept.all HBF.out) HBF.out.size) (HT2.out.keep (Kept.all HBF.out) HBF.out.size),HBF.out⟩
    ·have HN2:Hid (∀i (hi:i<x.vers.length),i<q+1→x.vers[i]≠ver):=Lh (fun i hi h=>by
      by_cases hik:i=q
      ·subst hik;rw[HY.out];exact hyv
      ·exact HN.out i hi (by omega))
     go_wp2_with fail;go_roundw;(case rel=>exact⟨q+1,by omega,by go_num,HN2,trivial⟩);case measure=>simp[intOf];omega
   ·have HNN:Hid (QcT l entry ver=none):=Lh (HNO.out (Qch fun i hi=>HN.out i hi (by have:=HNV.out;omega)));obtain rfl:q=nv:=by omega
    have z0:=HX1s.out.cell 0 rfl;have f0:=HX1s.out.fz 0;have z1:=(HX1s.out.set 0 (.slice none 0 0)).cell 1 rfl;have f1:=(HX1s.out.set 0 (.slice none 0 0)).fz 1;have hqI:¬(q:Int)<(q:Int):=(by omega);go_wp2_with fail
    exact bodyPost_ret (v:=.tuple #[.agg #[.slice none 0 0,.slice none 0 0],.bool false]) (Qag Tryz.results18 _ _ (w.heap.size+1) _ #[.slice none 0 0,.slice none 0 0] (0,0) _ rfl (abox2 HX1s.out _ _) Tryz.underlying36 rfl (by kernel_rfl)) rfl ⟨TxtQ.no _ HNN.out,Qct HBs.out (by omega) _ _⟩
set_option maxRecDepth 100000 in
theorem textAtQ_any {m h:Int}{A:Option Addr}{c:Nat}{l:List SectP}{w:World}(hs:Sl w (fun b=>b<w.heap.size) A c l)(hsh:Qa9 l)(heq:∀s∈l,s.texts.length=s.vers.length)(entry ver:Int):
 Calls Tryz.prog 27 #[.agg #[.int .i64 m,.int .i64 h,.slice A l.length c],.int .i64 entry,.int .i64 ver] w fun e W'=>TxtQ (Up w.heap.size) (QcT l entry ver) e W'∧Below w.heap.size w W':=by
 obtain⟨wb,hwb⟩:∃wb,(w.alloc (.cells #[.int .i64 m,.int .i64 h,.slice A l.length c] 25)).alloc (.cells #[.slice none 0 0,.slice none 0 0] 36)=wb:=⟨_,rfl⟩;have hba:Below w.heap.size w wb:=by rw[←hwb];exact(bR.alloc nL _).alloc (by simp) _
 have hx0:ABox wb w.heap.size 25 [.int .i64 m,.int .i64 h,.slice A l.length c]:=by rw[←hwb];exact(Below.heap_alloc _ _ _ (by simp)).trans (heap_alloc_new w _)
 have hx1:ABox wb (w.heap.size+1) 36 [.slice none 0 0,.slice none 0 0]:=by rw[←hwb];exact Qal (by simp)
 have HF:=Lh (find_any A c l m h entry wb (hs.to hba) (by have:=hsh.1;omega));have hsz:wb.heap.size=w.heap.size+2:=by rw[←hwb];simp
 have HZ:=Lh hsz;have HB:=Lh hba;have HX0:=Lh hx0;have HX1:=Lh hx1;have HS:=Lh hs;have HQ:=Lh heq;have HSH:=Lh hsh;have hlc:l.length≤c:=hs.1;have x0:=hx0.cell 0 rfl;have x1:=hx0.cell 1 rfl;have x2:=hx0.cell 2 rfl;clear hba hx0 hx1 hsz hs heq hsh;go_enter Tryz.func27,Tryz.ntmps27;go_upto_region 1 with(fail);(try rw[hwb]);clear hwb
 go_upto_region 2 with(first|(go_at_call 69;refine HF.out.mono ?_;rintro e w1 ⟨rfl,hb1⟩;have HB1:=Lh hb1;clear hb1 x0 x1 x2)|fail)
 have HX1w:=Lh (HX1.out.to HB1.out);have HX0w:=Lh (HX0.out.to HB1.out);have HBA:Hid (Below w.heap.size w w1):=Lh (HB.out.trans (HB1.out.mono HB.out.size));have HZ1:Hid (w.heap.size+2≤w1.heap.size):=Lh (by have:=HB1.out.size;have:=HZ.out;omega);clear HF HB1 HX1 HX0 HB;rcases Qby l entry with hf|⟨k,hk,hf,hfe⟩
 ·have HN:=Lh (QcE (v:=ver) hf);rw[hf];have z0:=HX1w.out.cell 0 rfl;have f0:=HX1w.out.fz 0;have z1:=(HX1w.out.set 0 (.slice none 0 0)).cell 1 rfl;have f1:=(HX1w.out.set 0 (.slice none 0 0)).fz 1;clear hf;go_wp2_with fail
  exact bodyPost_ret (v:=.tuple #[.agg #[.slice none 0 0,.slice none 0 0],.bool false]) (Qag Tryz.results27 _ _ (w.heap.size+1) _ #[.slice none 0 0,.slice none 0 0] (0,0) _ rfl (abox2 HX1w.out _ _) Tryz.underlying36 rfl (by kernel_rfl)) rfl ⟨TxtQ.no _ HN.out,Qct HBA.out (by omega) _ _⟩
 ·obtain⟨b,o,Ag,cg,An,cn,rfl,-,hbl,e0,e1,e2,e3,hg1,hn1,-⟩:=Qca HS.out hk;have hqe:=HQ.out _ (List.getElem_mem hk);have hshx:=HSH.out.2 _ (List.getElem_mem hk);obtain⟨x,hx⟩:∃x,l[k]=x:=⟨_,rfl⟩;rw[hx] at e0 e1 e2 e3 hg1 hn1 hqe hshx;have HNO:Hid (QdA x.vers ver= -1→QcT l entry ver=none):=Lh (fun h1=>Qcz hf hk hx (by omega) h1);have HYES:Hid (∀j (hj:j<x.texts.length),QdA x.vers ver=(j:Int)→QcT l entry ver=some x.texts[j]):=Lh (fun j hj h1=>Qc8 hf hk hx hj h1);have k2:=(HBA.out.cell (p:=⟨b,o+k*4+2,none⟩) hbl).trans e2;have k3:=(HBA.out.cell (p:=⟨b,o+k*4+3,none⟩) hbl).trans e3;have x2:=HX0w.out.cell 2 rfl;have HIX:=Lh (indexI_any Ag cg x.vers ver w1 (hg1.to HBA.out) (by have:=hshx.1;omega));have HN1:=Lh hn1;have HSX:=Lh hshx;have HV:Hid (x.texts.length=x.vers.length∧x.vers.length≤1048576):=Lh ⟨hqe,hshx.1⟩;have hnc:x.texts.length≤cn:=hn1.1;rw[hf];have hkI:¬(k:Int)<0:=(by omega);have hkL:(k:Int)<(l.length:Int):=(by omega);clear hf hfe e0 e1 e2 e3 hg1 hn1 hqe hshx hx
  go_upto_region 5 with(first|(go_at_call 70;refine HIX.out.mono ?_;rintro e w2 ⟨rfl,rfl⟩)|fail)
  by_cases hin:ver∈x.vers
  ·have hj:x.vers.findIdx (fun x=>decide (x=ver))<x.vers.length:=List.findIdx_lt_length_of_exists ⟨ver,hin,by simp⟩;have hix:QdA x.vers ver=(x.vers.findIdx (fun x=>decide (x=ver)):Int):=(by unfold QdA;rw[if_pos hj]);obtain⟨j,hje⟩:∃j,x.vers.findIdx (fun x=>decide (x=ver))=j:=⟨_,rfl⟩;rw[hje] at hj hix;have hqt:j<x.texts.length:=(by rw[HV.out.1];exact hj);have hyes:=HYES.out j hqt hix;rw[hix];obtain⟨bt,ot,Aa,ca,Ab,cb,rfl,-,hbt,t0',t1',ht1,ht2⟩:=Qdc HN1.out hqt;have hsx:=HSX.out.2.2 _ (List.getElem_mem hqt);obtain⟨z,hz⟩:∃z,x.texts[j]=z:=⟨_,rfl⟩;rw[hz] at t0' t1' ht1 ht2 hyes hsx;have t0:=(HBA.out.cell (p:=⟨bt,ot+j*2,none⟩) hbt).trans t0';have t1:=(HBA.out.cell (p:=⟨bt,ot+j*2+1,none⟩) hbt).trans t1';have HYE:=Lh hyes;have HBT:=Lh (Qcm Aa Ab ca cb z.a z.b _ (ht1.to HBA.out) (ht2.to HBA.out) hsx.1 hsx.2);have hjI:¬(j:Int)<0:=(by omega);have hjT:(j:Int)<(x.texts.length:Int):=(by omega);clear hz hyes ht1 ht2 t0' t1' hbt hix hje hj hin hsx
   go_wp2_with (first
    |(go_at_call 71;refine HBT.out.mono ?_;rintro e w3 ⟨va,vb,rfl,hr,hb3⟩;obtain⟨Ag1,Ag2,hvv,⟨A5,c5,e5,hs5,-⟩,⟨A6,c6,e6,hs6,-⟩⟩:=hr;cases hvv;cases e5;cases e6;have HS5:=Lh hs5;have HS6:=Lh hs6;have HB3:=Lh hb3;clear hs5 hs6 hb3 k2 k3 x2 t0 t1;have z0:=(HX1w.out.to HB3.out).cell 0 rfl;have f0:=(HX1w.out.to HB3.out).fz 0;have z1:=((HX1w.out.to HB3.out).set 0 (.slice A5 z.a.length c5)).cell 1 rfl;have f1:=((HX1w.out.to HB3.out).set 0 (.slice A5 z.a.length c5)).fz 1)
    |fail)
   have HBF:=Lh (Qct (HBA.out.trans (HB3.out.mono HBA.out.size)) (b:=w.heap.size+1) (by omega) (.slice A5 z.a.length c5) (.slice A6 z.b.length c6))
   have hkp:∀i,Up w1.heap.size i→((w3.setCell ⟨w.heap.size+1,0,none⟩ (.slice A5 z.a.length c5)).setCell ⟨w.heap.size+1,1,none⟩ (.slice A6 z.b.length c6)).heap[i]? =w3.heap[i]? :=fun i (hi:w1.heap.size≤i)=>by
    have:=HZ1.out;exact(Qaa _ _ _ _ (by omega)).trans (Qaa _ _ _ _ (by omega))
   refine bodyPost_ret (v:=.tuple #[.agg #[.slice A5 z.a.length c5,.slice A6 z.b.length c6],.bool true]) (Qag Tryz.results27 _ _ (w.heap.size+1) _ #[.slice A5 z.a.length c5,.slice A6 z.b.length c6] (0,0) _ rfl (abox2 (HX1w.out.to HB3.out) _ _) Tryz.underlying36 rfl (by kernel_rfl)) rfl ⟨TxtQ.yes HYE.out ((HS5.out.keep (fun i hi _=>hkp i hi) (by simp)).mono fun i (hi:w1.heap.size≤i) _=>by show w.heap.size≤i;have:=HZ1.out;omega) ((HS6.out.keep (fun i hi _=>hkp i hi) (by simp)).mono fun i (hi:w1.heap.size≤i) _=>by show w.heap.size≤i;have:=HZ1.out;omega),HBF.out⟩
  ·have hix:QdA x.vers ver= -1:=Qch fun i hi e=>hin (by rw[←e];exact List.getElem_mem hi)
   have HNN:Hid (QcT l entry ver=none):=Lh (HNO.out hix);rw[hix];have z0:=HX1w.out.cell 0 rfl;have f0:=HX1w.out.fz 0;have z1:=(HX1w.out.set 0 (.slice none 0 0)).cell 1 rfl;have f1:=(HX1w.out.set 0 (.slice none 0 0)).fz 1;clear hix hin k2 k3 x2;go_wp2_with fail
   exact bodyPost_ret (v:=.tuple #[.agg #[.slice none 0 0,.slice none 0 0],.bool false]) (Qag Tryz.results27 _ _ (w.heap.size+1) _ #[.slice none 0 0,.slice none 0 0] (0,0) _ rfl (abox2 HX1w.out _ _) Tryz.underlying36 rfl (by kernel_rfl)) rfl ⟨TxtQ.no _ HNN.out,Qct HBA.out (by omega) _ _⟩

def NoB (l:List UInt8):Prop:=∀b∈l,b≠32
theorem nob_okW {l:List UInt8}(h:okW l=true):NoB l:=fun b hb e=>by
 subst e;unfold okW at h;have h1:=List.all_eq_true.1 h 32 hb;have h2:gw 32=0:=gw_lo 32 (by decide);have h3:(32:UInt8).toNat=32:=rfl;rw[h3,h2] at h1;cases h1
theorem nob_width {s:ByteArray}(h:1≤Qat s):NoB s.data.toList:=by
 unfold Qat at h;split at h
 ·omega
 ·split at h
  ·rename_i h1;exact nob_okW h1
  ·omega
theorem nob_dec:∀(u:Nat),NoB (Lib.decDigits u):=by
 intro u;induction u using Nat.strongRecOn with
 |ind u ih=>
  rw[Lib.decDigits];split
  ·rename_i h;intro b hb e;rw[List.mem_singleton.1 hb] at e;have h1:=congrArg UInt8.toNat e;rw[UInt8.toNat_ofNat',Nat.mod_eq_of_lt (by omega)] at h1;have h2:(32:UInt8).toNat=32:=rfl;omega
  ·rename_i h;intro b hb;rcases List.mem_append.1 hb with hb|hb
   ·exact ih (u/10) (by omega) b hb
   ·intro e;rw[List.mem_singleton.1 hb] at e;have h1:=congrArg UInt8.toNat e;rw[UInt8.toNat_ofNat',Nat.mod_eq_of_lt (by omega)] at h1;have h2:(32:UInt8).toNat=32:=rfl;omega
theorem nob_box (n:Int):NoB (box n).data.toList:=by
 unfold box Lib.itoa;intro b hb;simp only[List.mem_cons,List.mem_append,List.not_mem_nil,or_false] at hb;rcases hb with rfl|hb|rfl
 ·decide
 ·split at hb
  ·rcases List.mem_cons.1 hb with rfl|hb
   ·decide
   ·exact nob_dec _ b hb
  ·exact nob_dec _ b hb
 ·decide
theorem nob_show {sl:List Seal}{gs e v x:Int}{s:ByteArray}(h:NoB s.data.toList):NoB (QbZ sl gs e v x s).data.toList:=by
 unfold QbZ;split
 ·exact h
 ·exact nob_box _
def Qc9 (st:List (List UInt8) × List UInt8)(b:UInt8):List (List UInt8) × List UInt8:=if b=32 then(st.1++[st.2],[]) else(st.1,st.2++[b])
def pieB (l:List UInt8):List (List UInt8) × List UInt8:=l.foldl Qc9 ([],[])
theorem Qci (l:List UInt8)(b:UInt8):pieB (l++[b])=Qc9 (pieB l) b:=by unfold pieB;rw[List.foldl_append];rfl
def cutB (l:List UInt8):List (List UInt8):=(pieB l).1++[(pieB l).2]
theorem pieB_pre (l:List UInt8):∃pre,l=pre++(pieB l).2:=by
 refine snocInd (p:=fun l=>∃pre,l=pre++(pieB l).2) ⟨[],rfl⟩ (fun l b ih=>?_) l;obtain⟨pre,h⟩:=ih;rw[Qci];unfold Qc9;split
 ·exact⟨l++[b],by simp⟩
 ·exact⟨pre,by rw[←List.append_assoc,←h]⟩
theorem pieB_count (l:List UInt8):(pieB l).1.length≤l.length∧(pieB l).2.length≤l.length:=by
 refine snocInd (p:=fun l=>(pieB l).1.length≤l.length∧(pieB l).2.length≤l.length) ⟨Nat.le_refl _,Nat.le_refl _⟩ (fun l b ih=>?_) l;rw[Qci];unfold Qc9;split
 ·simp;omega
 ·simp;omega
theorem Qds:∀(w:List UInt8) (st:List (List UInt8) × List UInt8),NoB w→w.foldl Qc9 st=(st.1,st.2++w)
 |[],st,_=>by simp
 |b::w,st,h=>by
  rw[List.foldl_cons,Qc9,if_neg (h b (by simp)),Qds w _ (fun c hc=>h c (List.mem_cons_of_mem _ hc))];simp
theorem fold_tail:∀(r:List (List UInt8)) (st:List (List UInt8) × List UInt8),(∀w∈r,NoB w)→((Lib.joinTail [32] r).foldl Qc9 st).1++[((Lib.joinTail [32] r).foldl Qc9 st).2]=st.1++[st.2]++r
 |[],st,_=>by simp[Lib.joinTail]
 |w::r,st,h=>by
  have e:Lib.joinTail [32] (w::r)=[32]++(w++Lib.joinTail [32] r):=(by simp[Lib.joinTail]);rw[e,List.foldl_append,List.foldl_append,List.foldl_cons,List.foldl_nil,Qc9,if_pos rfl,Qds w _ (h w (by simp)),fold_tail r _ (fun c hc=>h c (List.mem_cons_of_mem _ hc))];simp
theorem cut_join {w:List UInt8}{r:List (List UInt8)}(h:∀x∈w::r,NoB x):cutB (Lib.join (w::r) [32])=w::r:=by
 unfold cutB pieB;rw[Lib.join_cons,List.foldl_append,Qds w _ (h w (by simp)),fold_tail r _ (fun c hc=>h c (List.mem_cons_of_mem _ hc))];simp
def cutS (s:ByteArray):List ByteArray:=(cutB s.data.toList).map fun l=>⟨l.toArray⟩
theorem cutS_join {L:List ByteArray}(hL:L≠[])(h:∀x∈L,NoB x.data.toList):cutS (QaY L)=L:=by
 cases L with
 |nil=>exact absurd rfl hL
 |cons w r=>
  unfold cutS QaY;show(cutB (Lib.join ((w::r).map (·.data.toList)) [32]).toArray.toList).map _=_;rw[List.toList_toArray,List.map_cons,cut_join,←List.map_cons (f:=fun x:ByteArray=>x.data.toList),List.map_map]
  ·rw[List.map_congr_left (g:=id)]
   ·simp
   ·intro x _;rfl
  ·intro x hx;rw[←List.map_cons (f:=fun x:ByteArray=>x.data.toList)] at hx;obtain⟨y,hy,rfl⟩:=List.mem_map.1 hx;exact h y hy
theorem GoodB.words {m h:Int}{l:List SectP}(H:GoodB m h l){p:PageP}(hp:p∈Qae m h l):∀y∈QaB (QaS l p),1≤Qat y.s:=by
 obtain⟨t,ht,hw,-,-⟩:=H.text p hp;have e:QaS l p=t:=by unfold QaS;rw[ht];rfl
 rw[e];intro y hy;unfold QaB at hy;obtain⟨q,hq,hy⟩:=List.mem_flatten.1 hy;exact((wrong_fine hw).w q hq y hy).1.1
theorem lineTo_nob {sl:List Seal}{gs e v:Int}{ws:List Word}{f j:Nat}(hj:j≤ws.length)(h:∀y∈ws,1≤Qat y.s):∀z∈Qau sl gs e v ws f j,NoB z.data.toList:=by
 unfold Qau;intro z hz;obtain⟨i,hi,rfl⟩:=List.mem_map.1 hz;have hl:=List.mem_range.1 hi;refine nob_show ?_;rw[List.getD_eq_getElem?_getD,qG (by omega),Option.getD_some];exact nob_width (h _ (List.getElem_mem _))
theorem may_none {G:Nat}(h:G<65536):may G 0=decide (G=0):=by
 unfold may;by_cases h0:G=0
 ·subst h0;rfl
 ·rw[decide_eq_false h0,decide_eq_false_iff_not];intro e;have h1:=congrArg BitVec.toNat e;rw[BitVec.toNat_and,BitVec.toNat_ofNat,Nat.mod_eq_of_lt (by omega),show(BitVec.ofInt 64 0).toNat=0 from by decide,Nat.and_zero] at h1;exact h0 h1.symm
theorem showS_none {sl:List Seal}(hg:∀s∈sl,0≤s.g∧s.g<16)(e v x:Int)(s:ByteArray):QbZ sl 0 e v x s=if gset (sl.filter (onP e v x))=0 then s else box (Qat s):=by
 unfold QbZ seeB;rw[may_none (gset_lt _ fun y hy=>(hg y (List.mem_filter.1 hy).1).2)];by_cases h:gset (sl.filter (onP e v x))=0
 ·rw[if_pos h,if_pos (decide_eq_true h)]
 ·rw[if_neg h,if_neg (by rw[decide_eq_false h];decide)]
theorem lineTo_at {sl:List Seal}{gs e v:Int}{ws:List Word}{f U q:Nat}(hq:q<(Qau sl gs e v ws f U).length)(hU:U≤ws.length):(Qau sl gs e v ws f U)[q]=QbZ sl gs e v ((f:Int)+(q:Int)) (ws[f+q]'(by rw[Qbd] at hq;omega)).s:=by
 have h1:q<U-f:=by rw[Qbd] at hq;exact hq
 simp only[Qau,List.getElem_map,List.getElem_range];rw[List.getD_eq_getElem?_getD,qG (by omega)];rfl
structure RuI (w0:World)(vo vr:Value)(lo:List MarkP)(lr:List ByteArray)(w:World):Prop where
 o:Own w w0.heap.size 61 vo lo
 r:Own w w0.heap.size 9 vr lr
 b:Below w0.heap.size w0 w
theorem lit_str {w:World}{b:Nat}{x:ByteArray}{S:Nat→Prop}(h:w.heap[b]? =some (.cells #[.string x] 9 (0,0)))(hx:x.size≤maxLen)(hS:S b):Sl w S (some ⟨b,0,none⟩) 1 [x]:=
 Sl.block (l:=[x]) h hS (by simp[maxLen]) (fun i hi=>by
  obtain rfl:i=0:=by simpa using hi
  exact⟨rfl,hx⟩)
section
variable {sl:List Seal} {gs:Int} {p:PageP} {ws:List Word} {x:LineP} {k:Nat}
end
def mkB (l:List UInt8):ByteArray:=⟨l.toArray⟩
def outB (s:List UInt8)(k:Nat):List ByteArray:=(if k≤s.length then(pieB (s.take k)).1 else cutB s).map mkB
theorem pie_ext (s:ByteArray){k c:Nat}(hk:k≤s.size)(hc:c+(pieB (s.data.toList.take k)).2.length=k):s.extract c k=mkB (pieB (s.data.toList.take k)).2:=by
 obtain⟨pre,hp⟩:=pieB_pre (s.data.toList.take k);have h1:pre.length=c:=by
  have:=congrArg List.length hp;rw[qK,qA,Array.length_toList] at this;have h2:s.data.size=s.size:=rfl;omega
 apply ByteArray.ext;apply Array.toList_inj.1;unfold mkB;rw[ByteArray.data_extract,Array.toList_extract,List.extract_eq_take_drop,←List.drop_take];rw[hp];have hq:=hp;rw[List.drop_append_of_le_length (by omega),List.drop_of_length_le (by omega),List.nil_append];rw[←hp]
theorem outB_next {s:List UInt8}{k:Nat}(hk:k<s.length):outB s (k+1)=if s[k]=32 then outB s k++[mkB (pieB (s.take k)).2] else outB s k:=by
 have e1:k+1≤s.length:=by omega
 have e2:k≤s.length:=by omega
 simp only[outB,if_pos e1,if_pos e2];rw[qT hk,Qci];unfold Qc9;split
 ·rw[List.map_append];rfl
 ·rfl
theorem outB_last (s:List UInt8):outB s (s.length+1)=outB s s.length++[mkB (pieB (s.take s.length)).2]:=by
 unfold outB;rw[if_neg (by omega),if_pos nL,List.take_length];unfold cutB;rw[List.map_append];rfl
theorem pie_next {s:List UInt8}{k:Nat}(hk:k<s.length):(pieB (s.take (k+1))).2.length=if s[k]=32 then 0 else(pieB (s.take k)).2.length+1:=by
 rw[qT hk,Qci];unfold Qc9;split
 ·rfl
 ·simp
set_option maxRecDepth 100000 in
theorem cut_any (s:ByteArray)(hs:s.size≤1100000000)(w:World):Calls Tryz.prog 28 #[.string s] w fun e w'=>∃v,e=.returned v∧Own w' w.heap.size 9 v (cutS s)∧Below w.heap.size w w':=by
 obtain⟨n,hn⟩:∃n,s.size=n:=⟨_,rfl⟩;have HN:=Lh hn;have HNL:Hid (s.data.toList.length=n):=Lh (by rw[Array.length_toList];exact hn);rw[hn] at hs;go_enter Tryz.func28,Tryz.ntmps28;go_wp2_with fail;go_loopw [3,4,5] (fun vo fr i wr=>∃k:Nat,k≤n+1∧i=.int .i64 (k:Int)∧(∃c:Nat,fr=.int .i64 (c:Int)∧(k≤n→c+(pieB (s.data.toList.take k)).2.length=k))∧Hid (Own wr w.heap.size 9 vo (outB s.data.toList k))∧Hid (Below w.heap.size w wr)) (fun _ _ i _=>n+1-(intOf i).toNat);(case atStart=>exact⟨0,Nat.zero_le _,rfl,⟨0,rfl,fun _=>rfl⟩,Lh (by unfold outB;rw[if_pos (Nat.zero_le _)];exact Own.nil _ _ _),Lh bR⟩);case round=>
  obtain⟨k,hk,rfl,⟨c,rfl,hc⟩,HO,HB⟩:=hrel;have HC:=Lh hc;clear hc;by_cases hlt:k≤n
  ·have hle:(k:Int)≤(n:Int):=by omega
   go_upto_region 6 with(fail);have hck:=HC.out hlt;have HXT:=Lh (pie_ext s (k:=k) (c:=c) (by omega) hck);have HXZ:Hid ((s.extract c k).size≤maxLen):=Lh (by rw[ByteArray.size_extract];unfold maxLen;omega)
   have HOL:Hid ((outB s.data.toList k).length≤1100000001):=Lh (by
    unfold outB
    rw[if_pos (by rw[HNL.out];exact hlt),qM]
    have h1:=(pieB_count (s.data.toList.take k)).1
    rw[qK] at h1
    omega)
   have hc1:(c:Int)≤(k:Int):=(by omega);have hc0:c≤k:=(by omega);by_cases hkn:k<n
   ·have hke:((k:Int)==(n:Int))=false:=beq_eq_false_iff_ne.2 (by omega);have hkI:(k:Int)<(n:Int):=(by omega);have hks:k<s.size:=(by omega);have hkL:k<s.data.toList.length:=(by rw[HNL.out];exact hkn);have hbe:s.data.toList[k]=s[k]:=(by simp[ByteArray.getElem_eq_getElem_data]);have HNX:Hid (outB s.data.toList (k+1)=if s[k]=32 then outB s.data.toList k++[mkB (pieB (s.data.toList.take k)).2] else outB s.data.toList k):=Lh (by rw[outB_next hkL,hbe]);have HPN:Hid ((pieB (s.data.toList.take (k+1))).2.length=if s[k]=32 then 0 else(pieB (s.data.toList.take k)).2.length+1):=Lh (by rw[pie_next hkL,hbe]);clear hbe;by_cases hb:s[k]=32
    ·have hb1:((s[k].toNat:Int)==32)=true:=by rw[hb];rfl
     rw[if_pos hb] at HNX HPN;clear hb hck
     go_wp2_with (first|(at_builtin;refine Qav (α:=ByteArray) _ rfl (.tmp 22) (.tmp 27) 44 rfl w.heap.size 9 (.string ⟨#[]⟩) 16 Tryz.underlying44 QbV rfl (by decide) _ _ rfl (HO.out.alloc _) (some ⟨wr.heap.size,0,none⟩) 1 1 [s.extract c k] rfl rfl (fun b=>b=wr.heap.size) (lit_str (heap_alloc_new wr _) HXZ.out rfl) (fun i hi _ e=>by have h4:i=wr.heap.size:=hi;have:=(HO.out.lt i e.symm).2;omega) (by have:=HOL.out;omega) (by have:=HOL.out;omega) (by have:=HB.out.size;simp;omega) ?_;intro v2 w2 hown2 hg2 hat2;have HON:=Lh hown2;have HBN:Hid (Below w.heap.size w w2):=Lh ((HB.out.alloc HB.out.size _).grown hg2 (by have:=HB.out.size;simp;omega) (fun r hr=>(HO.out.lt r hr).1));clear hown2 hg2 hat2)|fail)
     go_roundw;(case rel=>exact⟨k+1,by omega,by go_num,⟨k+1,by go_num,fun _=>by rw[HPN.out]⟩,Lh (by rw[HNX.out,←HXT.out];exact HON.out),HBN⟩);case measure=>(first|(simp[intOf];done)|(simp[intOf];omega))
    ·have hb1:((s[k].toNat:Int)==32)=false:=beq_eq_false_iff_ne.2 (fun e=>hb (by
      apply UInt8.toNat_inj.1
      have h2:(32:UInt8).toNat=32:=rfl
      omega))
     rw[if_neg hb] at HNX HPN;clear hb;go_wp2_with fail;go_roundw;(case rel=>exact⟨k+1,by omega,by go_num,⟨c,rfl,fun _=>by rw[HPN.out];have:=HC.out hlt;omega⟩,Lh (by rw[HNX.out];exact HO.out),HB⟩);case measure=>(first|(simp[intOf];done)|(simp[intOf];omega))
   ·obtain rfl:k=n:=by omega
    have hke:((k:Int)==(k:Int))=true:=(by simp);have HNX:=Lh (outB_last s.data.toList);rw[HNL.out] at HNX;clear hck
    go_wp2_with (first|(at_builtin;refine Qav (α:=ByteArray) _ rfl (.tmp 22) (.tmp 27) 44 rfl w.heap.size 9 (.string ⟨#[]⟩) 16 Tryz.underlying44 QbV rfl (by decide) _ _ rfl (HO.out.alloc _) (some ⟨wr.heap.size,0,none⟩) 1 1 [s.extract c k] rfl rfl (fun b=>b=wr.heap.size) (lit_str (heap_alloc_new wr _) HXZ.out rfl) (fun i hi _ e=>by have h4:i=wr.heap.size:=hi;have:=(HO.out.lt i e.symm).2;omega) (by have:=HOL.out;omega) (by have:=HOL.out;omega) (by have:=HB.out.size;simp;omega) ?_;intro v2 w2 hown2 hg2 hat2;have HON:=Lh hown2;have HBN:Hid (Below w.heap.size w w2):=Lh ((HB.out.alloc HB.out.size _).grown hg2 (by have:=HB.out.size;simp;omega) (fun r hr=>(HO.out.lt r hr).1));clear hown2 hg2 hat2)|fail)
    go_roundw;(case rel=>exact⟨k+1,by omega,by go_num,⟨k+1,by go_num,fun h=>by omega⟩,Lh (by rw[HNX.out,←HXT.out];exact HON.out),HBN⟩);case measure=>(first|(simp[intOf];done)|(simp[intOf];omega))
  ·obtain rfl:k=n+1:=by omega
   have hle:¬((n+1:Nat):Int)≤(n:Int):=by omega
   have HOF:Hid (Own wr w.heap.size 9 u3 (cutS s)):=Lh (by
    have h1:=HO.out
    unfold outB at h1
    rw[if_neg (by rw[HNL.out];omega)] at h1
    exact h1)
   go_wp2_with fail;go_ret;exact⟨_,rfl,HOF.out,HB.out⟩

set_option maxRecDepth 100000 in
theorem viewboxes_any (A0:Option Addr)(c0:Nat)(l0:List Int)(A1:Option Addr)(c1:Nat)(l1:List Int)(W1:World)(hs0:Sl W1 (fun b=>b<W1.heap.size) A0 c0 l0)(hs1:Sl W1 (fun b=>b<W1.heap.size) A1 c1 l1)(hT:Tabs W1):
 Calls Tryz.prog 8 #[.slice A0 l0.length c0,.slice A1 l1.length c1] W1 fun e w'=>e=.returned (.bool true)∧Below W1.heap.size W1 w':=by
 have HT:=Lh hT;have HMD:=Lh (lmade_any A0 c0 l0 A1 c1 l1 (0) W1 hs0 hs1 ⟨by decide,by decide⟩);obtain⟨gs,hgs⟩:∃q,grpI (0)=q:=⟨_,rfl⟩;have HGS:=Lh hgs;rw[hgs] at HMD;clear hT hs0 hs1 hgs;go_enter Tryz.func8,Tryz.ntmps8
 go_upto_region 2 with(first|(go_at_call 13;refine HMD.out.mono ?_;rintro e V1 ⟨m,h,Ak,ck,ss,As,cs,sl,rfl,hg,hs,hsl,hn6,hok,hb⟩;have HG:=Lh hg;have HV1:=Lh hb;have HSS:=Lh hs;have HSL:=Lh hsl;have HN6:=Lh hn6;have HOK:=Lh hok;clear hg hs hsl hn6 hok hb)|fail)
 obtain⟨W2,hW⟩:∃W2,V1.alloc (.cells #[.int .i64 m,.int .i64 h,.slice Ak ss.length ck] 25)=W2:=⟨_,rfl⟩;obtain⟨b1,hbk⟩:∃b1,V1.heap.size=b1:=⟨_,rfl⟩;rw[hW,hbk];have hb2:Below V1.heap.size V1 W2:=by rw[←hW];exact bR.alloc nL _
 have HX:=Lh (show ABox W2 b1 25 [.int .i64 m,.int .i64 h,.slice Ak ss.length ck] by rw[←hW,←hbk];exact heap_alloc_new V1 _);have HB:Hid (Below W1.heap.size W1 W2):=Lh (HV1.out.trans (hb2.mono HV1.out.size));have HS2:Hid (Sl W2 (fun b=>b<W2.heap.size) Ak ck ss):=Lh ((HSS.out.mono fun i hi _=>hi.2).to hb2);have HSL2:Hid (Sl W2 (fun b=>b<W2.heap.size) As cs sl):=Lh (HSL.out.to hb2);clear HSS HSL HV1 hW hbk hb2;have HT2:=Lh (HT.out.to HB.out);have HGD:=Lh HG.out.good;have HTM:=Lh HG.out.tame;have HZ:=Lh HG.out.siz;have HBO:Hid (∀W,Below W2.heap.size W2 W→BookOk W m h Ak ck ss):=Lh fun W hW=>(show SM W Ak ck ss from⟨HT2.out.to hW,HS2.out.to hW⟩).bookT HTM.out HZ.out
 have HPV:=Lh HGD.out.pv;have HEQ:Hid (∀s∈ss,s.texts.length=s.vers.length):=Lh fun s hs=>(HGD.out.s s hs).nt.symm
 have HPN:Hid ((Qae m h ss).length≤16384):=Lh HGD.out.p;have HSG:Hid (∀s∈sl,0≤s.g∧s.g<16):=Lh fun s hs=>(HOK.out s hs).2
 obtain⟨ns,hns⟩:∃q,sl.length=q:=⟨_,rfl⟩;have HNS:=Lh hns;have HNZ:Hid (ns≤1048576):=Lh (by have:=HN6.out;omega);rw[hns];clear hns;have q0:=HX.out.cell 0 rfl;have q1:=HX.out.cell 1 rfl;have q2:=HX.out.cell 2 rfl;have HPL:Hid ((Qae m h ss).length≤1048576):=Lh (by have:=HPN.out;omega);have HSH:Hid ((Qbh m h ss sl).length=(Qae m h ss).length):=Lh (by unfold Qbh;rw[qM])
 go_upto_region 3 with(first|(go_at_call 16;refine(sheets_any As cs ns sl (HBO.out W2 bR) HT2.out HEQ.out HPV.out HPL.out HSL2.out HNS.out HNZ.out HSG.out).mono ?_;rintro e W3 ⟨v1,rfl,ho,hb⟩;obtain⟨A8,c8,rfl,hs8⟩:=ho.sl;have HS8:=Lh hs8;have HB3:=Lh hb;clear ho hb hs8 q0 q1 q2)|fail)
 obtain⟨n,hn⟩:∃n,(Qae m h ss).length=n:=⟨_,rfl⟩;have HNP:=Lh hn;rw[hn] at HSH HPN;rw[HSH.out];have hpn:=HPN.out;have hn8:n≤c8:=by have:=HS8.out.1;rw[HSH.out] at this;exact this
 clear hn;have q0:=(HX.out.to HB3.out).cell 0 rfl;have q1:=(HX.out.to HB3.out).cell 1 rfl;have q2:=(HX.out.to HB3.out).cell 2 rfl
 go_upto_region 4 with(first|(go_at_call 26;refine(QbO (HBO.out W3 HB3.out)).mono ?_;rintro e W6 ⟨v1,R,rfl,ho,-,hb⟩;obtain⟨Ap,cp,rfl,hsp⟩:=ho.plain.sl;have HSP:=Lh hsp;have hpc:(Qae m h ss).length≤cp:=hsp.1;have HB6:=Lh (HB3.out.trans (hb.mono HB3.out.size));have HS86:=Lh (HS8.out.to hb);clear ho hb hsp q0 q1 q2)|fail)
 obtain⟨ps,hps⟩:∃ps,Qae m h ss=ps:=⟨_,rfl⟩;have HSE:Hid (Qbh m h ss sl=ps.map fun p=>Qbs sl p (QaB (QaS ss p))):=Lh (by unfold Qbh;rw[hps]);have HWW:Hid (∀p∈ps,∀y∈QaB (QaS ss p),1≤Qat y.s):=Lh (fun p hp=>HGD.out.words (by rw[hps];exact hp));rw[hps] at HSP HPV HNP hpc ⊢;clear hps;rw[HNP.out] at hpc ⊢;have hnn:((n:Int) != (n:Int))=false:=by simp
 go_wp2_with fail;clear hnn;go_loopw [10] (fun i wr=>∃k:Nat,k≤n∧i=.int .i64 (k:Int)∧Hid (Below W6.heap.size W6 wr)) (fun i _=>n-(intOf i).toNat);(case atStart=>exact⟨0,Nat.zero_le _,rfl,Lh bR⟩);case round=>
  obtain⟨k,hk,rfl,HBr⟩:=hrel;have HBw:Hid (Below W2.heap.size W2 wr):=Lh (HB6.out.trans (HBr.out.mono HB6.out.size));by_cases hlt:k<n
  ·have hkl:k<ps.length:=by rw[HNP.out];exact hlt
   have hks:k<(Qbh m h ss sl).length:=(by rw[HSH.out];exact hlt);obtain⟨b8,o8,A6,c6,A7,c7,hA8,-,hl8,s0,s1,s2,hs6,hs7⟩:=sheetP_at HS86.out hks;have hse:(Qbh m h ss sl)[k]=Qbs sl ps[k] (QaB (QaS ss ps[k])):=(by simp only[HSE.out,List.getElem_map]);subst hA8;have hwwk:=HWW.out _ (List.getElem_mem hkl);obtain⟨bp,op,A2,c2,A3,c3,hAp,-,hblt,p0,p1,p2,p3,p4,p5,hs1,hs2⟩:=pageS_at HSP.out hkl;have hy:=HPV.out _ (List.getElem_mem hkl);obtain⟨p,hp⟩:∃p,ps[k]=p:=⟨_,rfl⟩;rw[hp] at p0 p1 p2 p3 p4 p5 hs1 hs2 hy;have HPK:=Lh hp;have HY:=Lh hy;obtain⟨num,suf,en,ve,body,notes⟩:=p;dsimp only at p0 p1 p2 p3 p4 p5 hs1 hs2;have HPC:Hid (∀W,Below W6.heap.size W6 W→(W.cell? ⟨bp,op+k*6,none⟩=some (.int .i64 num)∧W.cell? ⟨bp,op+k*6+1,none⟩=some (.int .i64 suf)∧W.cell? ⟨bp,op+k*6+2,none⟩=some (.int .i64 en)∧W.cell? ⟨bp,op+k*6+3,none⟩=some (.int .i64 ve))∧W.cell? ⟨bp,op+k*6+4,none⟩=some (.slice A2 body.length c2)∧W.cell? ⟨bp,op+k*6+5,none⟩=some (.slice A3 notes.length c3)):=Lh fun W hW=>
    ⟨⟨(hW.cell (p:=⟨bp,op+k*6,none⟩) hblt).trans p0,(hW.cell (p:=⟨bp,op+k*6+1,none⟩) hblt).trans p1,(hW.cell (p:=⟨bp,op+k*6+2,none⟩) hblt).trans p2,(hW.cell (p:=⟨bp,op+k*6+3,none⟩) hblt).trans p3⟩,(hW.cell (p:=⟨bp,op+k*6+4,none⟩) hblt).trans p4,(hW.cell (p:=⟨bp,op+k*6+5,none⟩) hblt).trans p5⟩
   have HS1:=Lh hs1;have HS2b:=Lh hs2;have hkI:(k:Int)<(n:Int):=(by omega);have hkc:(k:Int)<(cp:Int):=(by omega);subst hAp;obtain⟨tx,htx⟩:∃t,QaS ss ⟨num,suf,en,ve,body,notes⟩=t:=⟨_,rfl⟩;have HTXE:=Lh htx;obtain⟨fx,hfx⟩:∃f,(QcT ss en ve).isSome=f:=⟨_,rfl⟩
   have HTQ:Hid (∀W,Below wr.heap.size wr W→Calls Tryz.prog 27 #[.agg #[.int .i64 m,.int .i64 h,.slice Ak ss.length ck],.int .i64 en,.int .i64 ve] W fun e W'=>(∃Aa ca Ab cb,e=.returned (.tuple #[.agg #[.slice Aa tx.a.length ca,.slice Ab tx.b.length cb],.bool fx])∧Sl W' (fun b=>W.heap.size≤b) Aa ca tx.a∧Sl W' (fun b=>W.heap.size≤b) Ab cb tx.b)∧Below W.heap.size W W'):=Lh fun W hW=>by
    have hW2:Below W2.heap.size W2 W:=HBw.out.trans (hW.mono HBw.out.size);have:=textAtQ_any (m:=m) (h:=h) (w:=W) (HS2.out.to hW2) HTM.out.short HEQ.out en ve;unfold TxtQ at this;have e9:(QcT ss en ve).getD ⟨[],[]⟩=tx:=htx;rwa [e9,hfx] at this
   have HYT:Hid (tx.a.length≤100∧tx.b.length≤100∧tot (tx.a++tx.b)≤1048576∧(∀y∈QaB tx,y.s.size≤1000)∧∀x∈body++notes,InL (tot (tx.a++tx.b)) x):=Lh (by
    have h1:=HY.out.la
    have h2:=HY.out.lb
    have h3:=HY.out.tt
    have h4:=HY.out.ws
    have h5:=HY.out.inl
    rw[htx] at h1 h2 h3 h4 h5
    exact⟨h1,h2,h3,h4,h5⟩)
   have HBL:Hid (body.length≤1048576∧notes.length≤1048576):=Lh ⟨HY.out.bl,HY.out.nl⟩
   have HCS:Hid (∀W,Below wr.heap.size wr W→W.cell? ⟨b1,0,none⟩=some (.int .i64 m)∧W.cell? ⟨b1,1,none⟩=some (.int .i64 h)∧W.cell? ⟨b1,2,none⟩=some (.slice Ak ss.length ck)∧W.cell? ⟨bp,op+k*6+2,none⟩=some (.int .i64 en)∧W.cell? ⟨bp,op+k*6+3,none⟩=some (.int .i64 ve)):=Lh fun W hW=>by
    have hW2:Below W2.heap.size W2 W:=HBw.out.trans (hW.mono HBw.out.size);have hW3:Below W6.heap.size W6 W:=HBr.out.trans (hW.mono HBr.out.size);exact⟨(HX.out.to hW2).cell 0 rfl,(HX.out.to hW2).cell 1 rfl,(HX.out.to hW2).cell 2 rfl,(HPC.out W hW3).1.2.2.1,(HPC.out W hW3).1.2.2.2⟩
   have hzw:=HBw.out.size;have HKL:=Lh hlt;clear hy hp p0 p1 p2 p3 p4 p5 hs1 hs2 htx hfx;rw[hse] at s1 s2 hs6 hs7;rw[HPK.out] at s1 s2 hs6 hs7 hwwk;rw[HTXE.out] at hwwk;have HWD:=Lh hwwk;obtain⟨SB,hSB⟩:∃q,(Qbs sl ⟨num,suf,en,ve,body,notes⟩ (QaB (QaS ss ⟨num,suf,en,ve,body,notes⟩))).body=q:=⟨_,rfl⟩;rw[hSB] at s1 hs6
   have HSTE:Hid (SB=body.map (QaW sl 0 en ve (QaB tx))):=Lh (by
    rw[←hSB]
    unfold Qbs
    dsimp only
    rw[HTXE.out])
   obtain⟨nb,hnb⟩:∃q,body.length=q:=⟨_,rfl⟩;have HNB:=Lh hnb;have HNS2:Hid (SB.length=nb):=Lh (by rw[HSTE.out,qM,hnb]);rw[HNS2.out] at s1;rw[hnb] at HPC;have hnb2:nb≤1048576:=(by rw[←hnb];exact HBL.out.1);have HSC:Hid (∀W,Below W6.heap.size W6 W→W.cell? ⟨b8,o8+k*3+1,none⟩=some (.slice A6 nb c6)):=Lh fun W hW=>
    (hW.cell (p:=⟨b8,o8+k*3+1,none⟩) hl8).trans s1
   have HS6:=Lh hs6;have p0:=(HPC.out wr HBr.out).1.1;have p1:=(HPC.out wr HBr.out).1.2.1;have p2:=(HPC.out wr HBr.out).1.2.2.1;have p3:=(HPC.out wr HBr.out).1.2.2.2;have p4:=(HPC.out wr HBr.out).2.1;have p5:=(HPC.out wr HBr.out).2.2;have hbc2:nb≤c2:=(by rw[←hnb];exact HS1.out.1);have hbc6:nb≤c6:=(by have:=HS6.out.1;rw[HNS2.out] at this;exact this);clear hse hSB s0 s1 s2 hs6 hs7 hks hwwk hnb;go_upto_region 10 with(fail);obtain⟨X1,hX1⟩:∃q,wr.heap.size=q:=⟨_,rfl⟩;obtain⟨w3,hw3⟩:∃q,wr.alloc (.cells #[.int .i64 num,.int .i64 suf,.int .i64 en,.int .i64 ve,.slice A2 nb c2,.slice A3 notes.length c3] 43)=q:=⟨_,rfl⟩;have hb3:Below wr.heap.size wr w3:=by rw[←hw3];exact bR.alloc nL _
   have HXp:Hid (ABox w3 X1 43 [.int .i64 num,.int .i64 suf,.int .i64 en,.int .i64 ve,.slice A2 nb c2,.slice A3 notes.length c3]):=Lh (by rw[←hw3,←hX1];exact heap_alloc_new wr _);have HBr3:=Lh hb3;rw[hw3,hX1];clear hX1 hw3 hb3 p0 p1 p2 p3 p4 p5;have b0:=(HX.out.to (HBw.out.trans (HBr3.out.mono HBw.out.size))).cell 0 rfl;have b1':=(HX.out.to (HBw.out.trans (HBr3.out.mono HBw.out.size))).cell 1 rfl;have b2:=(HX.out.to (HBw.out.trans (HBr3.out.mono HBw.out.size))).cell 2 rfl;have p2:=HXp.out.cell 2 rfl;have p3:=HXp.out.cell 3 rfl
   go_upto_region 11 with(first|(go_at_call 27;refine(HTQ.out w3 HBr3.out).mono ?_;rintro e V3 ⟨⟨At,ct,Bt,dt,rfl,h1,h2⟩,hb⟩;have HP3:=Lh (h1.mono (S':=fun i=>i<V3.heap.size) fun i _ hl=>hl);have HQ3:=Lh (h2.mono (S':=fun i=>i<V3.heap.size) fun i _ hl=>hl);have HB3v:=Lh hb;clear h1 h2 hb b0 b1' b2 p2 p3)|fail)
   obtain⟨ot,hot⟩:∃q,V3.heap.size=q:=⟨_,rfl⟩;obtain⟨w5,hw5⟩:∃q,V3.alloc (.cells #[.slice At tx.a.length ct,.slice Bt tx.b.length dt] 36)=q:=⟨_,rfl⟩;have hb5:Below V3.heap.size V3 w5:=(by rw[←hw5];exact bR.alloc nL _);have HXt:Hid (ABox w5 ot 36 [.slice At tx.a.length ct,.slice Bt tx.b.length dt]):=Lh (by rw[←hw5,←hot];exact heap_alloc_new V3 _);have HPt:=Lh (HP3.out.to hb5);have HQt:=Lh (HQ3.out.to hb5);have HB35:Hid (Below w3.heap.size w3 w5):=Lh (HB3v.out.trans (hb5.mono HB3v.out.size));have HXp5:=Lh (HXp.out.to HB35.out);have HBr5:Hid (Below wr.heap.size wr w5):=Lh (HBr3.out.trans (HB35.out.mono HBr3.out.size));have HB65:Hid (Below W6.heap.size W6 w5):=Lh (HBr.out.trans (HBr5.out.mono HBr.out.size));rw[hw5,hot];clear hw5 hot hb5;have g1:=HSC.out w5 HB65.out;have p4:=HXp5.out.cell 4 rfl;have hnn:((nb:Int) != (nb:Int))=false:=(by simp);go_quiet (fail);obtain⟨w6,hw6⟩:∃q,w5.drewN nq=q:=⟨_,rfl⟩;have hb6:Below w5.heap.size w5 w6:=(by rw[←hw6];exact Below.dn bR nq);rw[hw6];have HB66:Hid (Below W6.heap.size W6 w6):=Lh (HB65.out.trans (hb6.mono HB65.out.size));have HB26:Hid (Below W2.heap.size W2 w6):=Lh (HB6.out.trans (HB66.out.mono HB6.out.size));have HXp6:=Lh (HXp5.out.to hb6);have HXt6:=Lh (HXt.out.to hb6);have HPt6:=Lh (HPt.out.to hb6);have HQt6:=Lh (HQt.out.to hb6);clear hw6 hb6 g1 p4 hnn;unfold Exit.then;obtain⟨wo,rfl⟩:∃wo:World,wo=wr:=⟨_,rfl⟩;go_wp2_with fail;go_loopw [14] (fun i wr=>∃j:Nat,j≤nb∧i=.int .i64 (j:Int)∧Hid (Below w6.heap.size w6 wr)) (fun i _=>nb-(intOf i).toNat);(case atStart=>exact⟨0,Nat.zero_le _,rfl,Lh bR⟩);case round=>
    obtain⟨j,hj,rfl,HBj⟩:=hrel;have HB6j:Hid (Below W6.heap.size W6 wr):=Lh (HB66.out.trans (HBj.out.mono HB66.out.size));have p4:=(HXp6.out.to HBj.out).cell 4 rfl;by_cases hjl:j<nb
    ·have hjk:j<body.length:=by rw[HNB.out];exact hjl
     have hjs:j<SB.length:=(by rw[HNS2.out];exact hjl);obtain⟨bl,ol,Ag,cg,An,cn,hAl,-,hbl,f0,f1,-,-,-,-⟩:=Qbx (HS1.out.to HB66.out) hjk;obtain⟨bt,ot2,hAs,-,hbt,-,g0⟩:=str_at (HS6.out.to HB66.out) hjs;have hste:SB[j]=QaW sl 0 en ve (QaB tx) body[j]:=(by simp only[HSTE.out,List.getElem_map]);obtain⟨x,hx⟩:∃x,body[j]=x:=⟨_,rfl⟩;have hin:=HYT.out.2.2.2.2 _ (List.mem_append_left _ (List.getElem_mem hjk));rw[hx] at f0 f1 hin hste;rw[hste] at g0;obtain⟨fr,un,gaps,nts⟩:=x;obtain⟨f,rfl⟩:=Int.eq_ofNat_of_zero_le (show 0≤fr from hin.1);obtain⟨U,rfl⟩:=Int.eq_ofNat_of_zero_le (show 0≤un by have h1:(f:Int)<un:=hin.2.1;omega);have hfU:f<U:=(by have h1:(f:Int)<(U:Int):=hin.2.1;omega);have hUt:U≤tot (tx.a++tx.b):=(by have h1:(U:Int)≤((tot (tx.a++tx.b):Nat):Int):=hin.2.2;omega);have hUm:U≤1048576:=Nat.le_trans hUt HYT.out.2.2.1;have hUw:U≤(QaB tx).length:=(by have h1:(QaB tx).length=tot (tx.a++tx.b):=QbY tx;omega);have hpl:QaW sl 0 en ve (QaB tx) ⟨(f:Int),(U:Int),gaps,nts⟩=QaY (Qau sl 0 en ve (QaB tx) f U):=by
      rw[lineS_to (N:=tot (tx.a++tx.b)) hin];rfl
     rw[hpl] at g0;dsimp only at f0 f1;subst hAl;subst hAs;obtain⟨LT,hLT⟩:∃L,Qau sl 0 en ve (QaB tx) f U=L:=⟨_,rfl⟩;have HLTE:=Lh hLT;have hll:LT.length=U-f:=(by rw[←hLT];exact Qbd);have HCUT:Hid (cutS (QaY LT)=LT):=Lh (cutS_join (by intro e;rw[e] at hll;simp at hll;omega) (by rw[←hLT];exact lineTo_nob hUw HWD.out));have hjz:=QcI LT (by rw[←hLT];exact Qb9 HYT.out.2.2.2.1 hUw);rw[hLT] at g0;have HJZ:Hid ((QaY LT).size≤1100000000):=Lh (by rw[hll] at hjz;omega);have HLC:Hid (∀W,Below w6.heap.size w6 W→W.cell? ⟨bl,ol+j*4,none⟩=some (.int .i64 (f:Int))∧W.cell? ⟨bl,ol+j*4+1,none⟩=some (.int .i64 (U:Int))):=Lh fun W hW=>
      ⟨(hW.cell (p:=⟨bl,ol+j*4,none⟩) hbl).trans f0,(hW.cell (p:=⟨bl,ol+j*4+1,none⟩) hbl).trans f1⟩
     have g1:=HSC.out wr HB6j.out;have g2:=(HBj.out.cell (p:=⟨bt,ot2+j,none⟩) hbt).trans g0;have hjI:(j:Int)<(nb:Int):=(by omega);have hjc:(j:Int)<(c6:Int):=(by omega);have hjc2:(j:Int)<(c2:Int):=(by omega);have HJL:=Lh hjl;have HUW:=Lh hUw;have HLL:=Lh hll;obtain⟨nf,hnf⟩:∃q,U-f=q:=⟨_,rfl⟩;have HNF:Hid (U=f+nf):=Lh (by omega);rw[hnf] at HLL;have hsub:(U:Int)-(f:Int)=(nf:Int):=(by omega);clear hLT hll hpl hste hx hin f0 f1 g0 hbl hbt hjk hjs hjz hUw hnf
     go_upto_region 17 with(first|(go_at_call 28;refine(cut_any (QaY LT) HJZ.out wr).mono ?_;rintro e w7 ⟨v7,rfl,ho,hb⟩;rw[HCUT.out] at ho;obtain⟨Aw,cw,rfl,hsw,-,hcw,-⟩:=ho.parts;rw[HLL.out] at hcw ⊢;have HSW:=Lh hsw;have HB7:=Lh (HBj.out.trans (hb.mono HBj.out.size));clear ho hb hsw g1 g2 p4)|fail)
     have l0:=(HLC.out w7 HB7.out).1;have l1:=(HLC.out w7 HB7.out).2;have p4:=(HXp6.out.to HB7.out).cell 4 rfl;have hnn:((nf:Int) != (nf:Int))=false:=(by simp);go_quiet (fail);obtain⟨w8,hw8⟩:∃q,w7.drewN nq=q:=⟨_,rfl⟩;have hb8:Below w7.heap.size w7 w8:=(by rw[←hw8];exact Below.dn bR nq);rw[hw8];have HB8:=Lh (HB7.out.trans (hb8.mono HB7.out.size));have HSW8:=Lh (HSW.out.to hb8);clear hw8 hb8 l0 l1 p4 hnn hsub;unfold Exit.then;obtain⟨wi,rfl⟩:∃wi:World,wi=wr:=⟨_,rfl⟩;go_wp2_with fail;go_loopw [16] (fun i wr=>∃q:Nat,q≤nf∧i=.int .i64 (q:Int)∧Hid (Below w8.heap.size w8 wr)) (fun i _=>nf-(intOf i).toNat);(case atStart=>exact⟨0,Nat.zero_le _,rfl,Lh bR⟩);case round=>
      obtain⟨q,hq,rfl,HBq⟩:=hrel;have HB6q:Hid (Below w6.heap.size w6 wr):=Lh (HB8.out.trans (HBq.out.mono HB8.out.size));have HB2q:Hid (Below W2.heap.size W2 wr):=Lh (HB26.out.trans (HB6q.out.mono HB26.out.size));by_cases hql:q<nf
      ·have hqI:(q:Int)<(nf:Int):=by omega
       have hqw:q<LT.length:=(by rw[HLL.out];exact hql);have hqt:f+q<(QaB tx).length:=(by have:=HUW.out;have:=HNF.out;omega);obtain⟨bw,ow,hAw,-,hbw,-,e0⟩:=str_at (HSW8.out.to HBq.out) hqw;have hlt2:LT[q]=QbZ sl 0 en ve ((f:Int)+(q:Int)) ((QaB tx)[f+q]).s:=by
        simp only[←HLTE.out];exact lineTo_at (by rw[HLTE.out];exact hqw) HUW.out
       rw[hlt2,showS_none HSG.out] at e0;obtain⟨y,hy⟩:∃y,(QaB tx)[f+q]=y:=⟨_,rfl⟩;rw[hy] at e0;obtain⟨G,hG⟩:∃G,gset (sl.filter (onP en ve ((f:Int)+(q:Int))))=G:=⟨_,rfl⟩;rw[hG] at e0;have hfq1:f+q≤1048576:=by have:=HNF.out;omega
       have HGR:Hid (∀W,Below W2.heap.size W2 W→Calls Tryz.prog 29 #[.slice As ns cs,.int .i64 en,.int .i64 ve,.int .i64 ((f:Int)+(q:Int))] W fun r w'=>r=.returned (.int .i64 (G:Int))∧Below W.heap.size W w'):=Lh fun W hW=>by
        have:=QcL As cs ns sl en ve ((f:Int)+(q:Int)) W (HSL2.out.to hW) HNS.out HNZ.out HSG.out;rwa [hG] at this
       have HWQ:Hid (∀W,Below wr.heap.size wr W→Calls Tryz.prog 31 #[.agg #[.slice At tx.a.length ct,.slice Bt tx.b.length dt],.int .i64 ((f:Int)+(q:Int))] W fun e w'=>e=.returned (.tuple #[.agg #[.string y.s,.string y.key,.int .i64 y.t,.int .i64 y.n],.bool true])∧Below W.heap.size W w'):=Lh fun W hW=>by
        have h6:Below w6.heap.size w6 W:=HB6q.out.trans (hW.mono HB6q.out.size);have h1:=gword_any At Bt ct dt tx.a tx.b ((f+q:Nat):Int) W (by constructor<;>omega) (HPt6.out.to h6) (HQt6.out.to h6) (by have:=HYT.out.1;omega) (by have:=HYT.out.2.1;omega) (by have:=HYT.out.2.2.1;omega);have e1:Qcl (tx.a++tx.b) ((f+q:Nat):Int)=y:=by
         unfold Qcl;rw[if_neg (by omega),Int.toNat_natCast,List.getD_eq_getElem?_getD];have h2:(tx.a++tx.b).flatten[f+q]? =some y:=by
          rw[←hy];exact qG hqt
         rw[h2];rfl
        have e2:Qbz (tx.a++tx.b) ((f+q:Nat):Int)=true:=by
         unfold Qbz;exact decide_eq_true ⟨by omega,by have h1:(QaB tx).length=tot (tx.a++tx.b):=QbY tx;omega⟩
        rw[e1,e2] at h1;rw[show((f:Int)+(q:Int))=((f+q:Nat):Int) by omega];exact h1
       have HQL:=Lh hql;have HEC:Hid (∀W,Below wr.heap.size wr W→W.cell? ⟨bw,ow+q,none⟩=some (.string (if G=0 then y.s else box (Qat y.s)))):=Lh fun W hW=>(hW.cell (p:=⟨bw,ow+q,none⟩) hbw).trans e0
       have hqc:(q:Int)<(cw:Int):=(by omega);subst hAw
       have HCS2:Hid (∀W,Below wr.heap.size wr W→W.cell? ⟨ot,0,none⟩=some (.slice At tx.a.length ct)∧W.cell? ⟨ot,1,none⟩=some (.slice Bt tx.b.length dt)∧W.cell? ⟨X1,4,none⟩=some (.slice (some ⟨bl,ol,none⟩) nb c2)∧W.cell? ⟨bl,ol+j*4,none⟩=some (.int .i64 (f:Int))):=Lh fun W hW=>by
        have h6:Below w6.heap.size w6 W:=HB6q.out.trans (hW.mono HB6q.out.size);exact⟨(HXt6.out.to h6).cell 0 rfl,(HXt6.out.to h6).cell 1 rfl,(HXp6.out.to h6).cell 4 rfl,(HLC.out W h6).1⟩
       clear hy hG hlt2 e0 hbw hqw hqt hql;have hwr:IntKind.i64.wrap ((f:Int)+(q:Int))=(f:Int)+(q:Int):=IntWalk.i64_in _ (by omega);go_upto_region 22 with(fail);refine region_cut (fun a a' w'=>∃bn,a'=(((((((((((((((a.put (some 105) (.agg #[.slice At tx.a.length ct,.slice Bt tx.b.length dt])).put (some 106) (.pointer (some ⟨X1,4,none⟩))).put (some 107) (.slice (some ⟨bl,ol,none⟩) nb c2)).put (some 108) (.int .i64 (j:Int))).put (some 109) (.pointer (some ⟨bl,ol+j*4,none⟩))).put (some 110) (.pointer (some ⟨bl,ol+j*4,none⟩))).put (some 111) (.int .i64 (f:Int))).put (some 112) (.int .i64 (q:Int))).put (some 113) (.int .i64 ((f:Int)+(q:Int)))).put (some 114) (.tuple #[.agg #[.string y.s,.string y.key,.int .i64 y.t,.int .i64 y.n],.bool true])).put (some 104) (.tuple #[.agg #[.string y.s,.string y.key,.int .i64 y.t,.int .i64 y.n],.bool true])).put (some 115) (.agg #[.string y.s,.string y.key,.int .i64 y.t,.int .i64 y.n])).put (some 116) (.bool true)).put (some 17) (.pointer (some ⟨bn,0,none⟩))).put (some 18) (.bool true))∧ABox w' bn 66 [.string y.s,.string y.key,.int .i64 y.t,.int .i64 y.n]∧wr.heap.size≤bn∧Below wr.heap.size wr w') ?_ ?_
       ·refine Qaw (fun w'=>w'.cell? ⟨ot,0,none⟩=some (.slice At tx.a.length ct)∧w'.cell? ⟨ot,1,none⟩=some (.slice Bt tx.b.length dt)∧w'.cell? ⟨X1,4,none⟩=some (.slice (some ⟨bl,ol,none⟩) nb c2)∧w'.cell? ⟨bl,ol+j*4,none⟩=some (.int .i64 (f:Int))) (fun i=>decide (i<11)||decide (i=13)) (by kernel_rfl) ?_;obtain⟨V0,hV0⟩:∃V0,wr.drew=V0:=⟨_,rfl⟩;have hbd:Below wr.heap.size wr V0:=(by rw[←hV0];exact bR.drew);have HB0:=Lh hbd;rw[hV0];clear hV0 hbd;have hS0:V0.cell? ⟨ot,0,none⟩=some (.slice At tx.a.length ct)∧V0.cell? ⟨ot,1,none⟩=some (.slice Bt tx.b.length dt)∧V0.cell? ⟨X1,4,none⟩=some (.slice (some ⟨bl,ol,none⟩) nb c2)∧V0.cell? ⟨bl,ol+j*4,none⟩=some (.int .i64 (f:Int)):=HCS2.out V0 HB0.out;have HS0:=Lh hS0;refine tE 0 ⟨some 105,Op.load 36 (.tmp 12),36,_,_,_⟩ ?_ rfl ?zq0 (hS0) ?zq1;(case zq0=>intro wS hSw;(have hq0:=hSw.1);(have hq1:=hSw.2.1);clear hSw;go_simp;(try with_reducible rfl));(all_goals try go_frame);refine tE 1 ⟨some 106,Op.fieldAddr 43 (.tmp 11) 3,0,_,_,_⟩ ?_ rfl ?zq2 (hS0) ?zq3;(case zq2=>intro _ s;clear s;go_simp;(try with_reducible rfl));(all_goals try go_frame);refine tE 2 ⟨some 107,Op.load 41 (.tmp 106),41,_,_,_⟩ ?_ rfl ?zq4 (hS0) ?zq5;(case zq4=>intro wS hSw;(have hq2:=hSw.2.2.1);clear hSw;go_simp;(try with_reducible rfl));(all_goals try go_frame);refine tE 3 ⟨some 108,Op.move (.tmp 14),3,_,_,_⟩ ?_ rfl ?zq6 (hS0) ?zq7;(case zq6=>intro _ s;clear s;go_simp;(try with_reducible rfl));(all_goals try go_frame);refine tE 4 ⟨some 109,Op.indexAddr 41 (.tmp 107) (.tmp 108),0,_,_,_⟩ ?_ rfl ?zq8 (hS0) ?zq9;(case zq8=>intro _ s;clear s;go_simp;(try with_reducible rfl));(all_goals try go_frame);refine tE 5 ⟨some 110,Op.fieldAddr 56 (.tmp 109) 0,0,_,_,_⟩ ?_ rfl ?zq10 (hS0) ?zq11;(case zq10=>intro _ s;clear s;go_simp;(try with_reducible rfl));(all_goals try go_frame);refine tE 6 ⟨some 111,Op.load 3 (.tmp 110),3,_,_,_⟩ ?_ rfl ?zq12 (hS0) ?zq13;(case zq12=>intro wS hSw;(have hq3:=hSw.2.2.2);clear hSw;go_simp;(try with_reducible rfl));(all_goals try go_frame);refine tE 7 ⟨some 112,Op.move (.tmp 16),3,_,_,_⟩ ?_ rfl ?zq14 (hS0) ?zq15;(case zq14=>intro _ s;clear s;go_simp;(try with_reducible rfl));(all_goals try go_frame);refine tE 8 ⟨some 113,Op.binOp BinOp.add 3 (.tmp 111) (.tmp 112) 3,3,_,_,_⟩ ?_ rfl ?zq16 (hS0) ?zq17;(case zq16=>intro _ s;clear s;go_simp;(try with_reducible rfl));(all_goals try go_frame);refine QcK (i:=9) (j:=13) (oi:=⟨some 114,Op.call {callee:=Callee.value (Operand.func 31),args:=#[Operand.tmp 105,Operand.tmp 113],argTypes:=#[36,3]},67,_,_,_⟩) (oj:=⟨some 17,Op.alloc 66,0,_,_,_⟩) (by kernel_rfl) rfl rfl (by rfl) (by rfl) (fun K hK=>?_) (fun K hK=>?_)
        ·go_simp;go_at_call 31;refine(HWQ.out V0 HB0.out).mono ?_;rintro e V1 ⟨rfl,hb⟩;go_simp;have HB1:=Lh (HB0.out.trans (hb.mono HB0.out.size));have hS1:V1.cell? ⟨ot,0,none⟩=some (.slice At tx.a.length ct)∧V1.cell? ⟨ot,1,none⟩=some (.slice Bt tx.b.length dt)∧V1.cell? ⟨X1,4,none⟩=some (.slice (some ⟨bl,ol,none⟩) nb c2)∧V1.cell? ⟨bl,ol+j*4,none⟩=some (.int .i64 (f:Int)):=HCS2.out V1 HB1.out;clear hb;refine hK _ _ (fun _=>?_) ?_
         ·exact hS1
         clear hK K;(try go_frame);refine tE 10 ⟨some 104,Op.move (.tmp 114),67,_,_,_⟩ ?_ rfl ?zq18 (hS1) ?zq19;(case zq18=>intro _ s;clear s;go_simp;(try with_reducible rfl));(all_goals try go_frame);refine tF 11 ⟨some 115,Op.extract (.tmp 104) 0,66,_,_,_⟩ ?_ rfl ?zq20 ?zq21;(case zq20=>intro wS;go_simp;(try with_reducible rfl));(all_goals try go_frame);refine tF 12 ⟨some 116,Op.extract (.tmp 104) 1,4,_,_,_⟩ ?_ rfl ?zq22 ?zq23;(case zq22=>intro wS;go_simp;(try with_reducible rfl));(all_goals try go_frame);refine tD 13 ⟨some 17,Op.alloc 66,0,_,_,_⟩ rfl fun K hK=>?_
         go_simp;obtain⟨V2,hV⟩:∃V2,(V1.alloc (.cells #[.string ⟨#[]⟩,.string ⟨#[]⟩,.int .i64 0,.int .i64 0] 66))=V2:=⟨_,rfl⟩;have hb:Below V1.heap.size V1 V2:=(by rw[←hV];exact bR.alloc nL _);have hx:ABox V2 V1.heap.size 66 [.string ⟨#[]⟩,.string ⟨#[]⟩,.int .i64 0,.int .i64 0]:=(by rw[←hV];exact heap_alloc_new V1 _);obtain⟨bn,hbn⟩:∃bn,V1.heap.size=bn:=⟨_,rfl⟩;have HBN:Hid (wr.heap.size≤bn):=Lh (by rw[←hbn];exact HB1.out.size);rw[hV,hbn];rw[hbn] at hx;have HB2:=Lh (HB1.out.trans (hb.mono HB1.out.size));have hS2:V2.cell? ⟨ot,0,none⟩=some (.slice At tx.a.length ct)∧V2.cell? ⟨ot,1,none⟩=some (.slice Bt tx.b.length dt)∧V2.cell? ⟨X1,4,none⟩=some (.slice (some ⟨bl,ol,none⟩) nb c2)∧V2.cell? ⟨bl,ol+j*4,none⟩=some (.int .i64 (f:Int)):=HCS2.out V2 HB2.out;have HX2:=Lh hx;clear hx hb hV hbn;refine hK _ _ (fun _=>?_) ?_
         ·exact hS2
         clear hK K;(try go_frame);refine tD 14 ⟨none,Op.store 66 (.tmp 17) (.tmp 115),0,_,_,_⟩ rfl fun K hK=>?_
         have hy0:=HX2.out;have z0:=hy0.cell 0 rfl;have f0:=hy0.fz 0;have hy1:=hy0.set 0 (.string y.s);have z1:=hy1.cell 1 rfl;have f1:=hy1.fz 1;have hy2:=hy1.set 1 (.string y.key);have z2:=hy2.cell 2 rfl;have f2:=hy2.fz 2;have hy3:=hy2.set 2 (.int .i64 y.t);have z3:=hy3.cell 3 rfl;have f3:=hy3.fz 3;have hy4:=hy3.set 3 (.int .i64 y.n);have HXF:=Lh hy4;clear hy0 hy1 hy2 hy3 hy4;go_simp;clear z0 f0 z1 f1 z2 f2 z3 f3;refine hK _ _ (fun h=>absurd h (by decide)) ?_;clear hK K;(try simp only[Act.put]);refine tD 15 ⟨some 18,Op.assign (.tmp 116),4,_,_,_⟩ rfl fun K hK=>?_
         go_simp;refine hK _ _ (fun h=>absurd h (by decide)) ?_;clear hK K;(try go_frame);refine Qao (by kernel_rfl) ?_ _;refine⟨rfl,bn,rfl,HXF.out,HBN.out,((((((((HB2.out).setCell (p:=⟨bn,0,none⟩) HBN.out (.string y.s))).setCell (p:=⟨bn,1,none⟩) HBN.out (.string y.key))).setCell (p:=⟨bn,2,none⟩) HBN.out (.int .i64 y.t))).setCell (p:=⟨bn,3,none⟩) HBN.out (.int .i64 y.n))⟩
        ·go_simp;obtain⟨V1,hV⟩:∃V1,(V0.alloc (.cells #[.string ⟨#[]⟩,.string ⟨#[]⟩,.int .i64 0,.int .i64 0] 66))=V1:=⟨_,rfl⟩;have hb:Below V0.heap.size V0 V1:=(by rw[←hV];exact bR.alloc nL _);have hx:ABox V1 V0.heap.size 66 [.string ⟨#[]⟩,.string ⟨#[]⟩,.int .i64 0,.int .i64 0]:=(by rw[←hV];exact heap_alloc_new V0 _);obtain⟨bn,hbn⟩:∃bn,V0.heap.size=bn:=⟨_,rfl⟩;have HBN:Hid (wr.heap.size≤bn):=Lh (by rw[←hbn];exact HB0.out.size);rw[hV,hbn];rw[hbn] at hx;have HB1:=Lh (HB0.out.trans (hb.mono HB0.out.size));have hS1:V1.cell? ⟨ot,0,none⟩=some (.slice At tx.a.length ct)∧V1.cell? ⟨ot,1,none⟩=some (.slice Bt tx.b.length dt)∧V1.cell? ⟨X1,4,none⟩=some (.slice (some ⟨bl,ol,none⟩) nb c2)∧V1.cell? ⟨bl,ol+j*4,none⟩=some (.int .i64 (f:Int)):=HCS2.out V1 HB1.out;have HX1:=Lh hx;clear hx hb hV hbn;refine hK _ _ (fun _=>?_) ?_
         ·exact hS1
         clear hK K;(try go_frame);refine tD 9 ⟨some 114,Op.call {callee:=Callee.value (Operand.func 31),args:=#[Operand.tmp 105,Operand.tmp 113],argTypes:=#[36,3]},67,_,_,_⟩ rfl fun K hK=>?_
         go_simp;go_at_call 31;refine(HWQ.out V1 HB1.out).mono ?_;rintro e V2 ⟨rfl,hb⟩;go_simp;have HB2:=Lh (HB1.out.trans (hb.mono HB1.out.size));have hS2:V2.cell? ⟨ot,0,none⟩=some (.slice At tx.a.length ct)∧V2.cell? ⟨ot,1,none⟩=some (.slice Bt tx.b.length dt)∧V2.cell? ⟨X1,4,none⟩=some (.slice (some ⟨bl,ol,none⟩) nb c2)∧V2.cell? ⟨bl,ol+j*4,none⟩=some (.int .i64 (f:Int)):=HCS2.out V2 HB2.out;have HX2:=Lh (HX1.out.to hb);clear hb;refine hK _ _ (fun _=>?_) ?_
         ·exact hS2
         clear hK K;(try go_frame);refine tE 10 ⟨some 104,Op.move (.tmp 114),67,_,_,_⟩ ?_ rfl ?zq24 (hS2) ?zq25;(case zq24=>intro _ s;clear s;go_simp;(try with_reducible rfl));(all_goals try go_frame);refine tF 11 ⟨some 115,Op.extract (.tmp 104) 0,66,_,_,_⟩ ?_ rfl ?zq26 ?zq27;(case zq26=>intro wS;go_simp;(try with_reducible rfl));(all_goals try go_frame);refine tF 12 ⟨some 116,Op.extract (.tmp 104) 1,4,_,_,_⟩ ?_ rfl ?zq28 ?zq29;(case zq28=>intro wS;go_simp;(try with_reducible rfl));(all_goals try go_frame);refine tD 14 ⟨none,Op.store 66 (.tmp 17) (.tmp 115),0,_,_,_⟩ rfl fun K hK=>?_
         have hy0:=HX2.out;have z0:=hy0.cell 0 rfl;have f0:=hy0.fz 0;have hy1:=hy0.set 0 (.string y.s);have z1:=hy1.cell 1 rfl;have f1:=hy1.fz 1;have hy2:=hy1.set 1 (.string y.key);have z2:=hy2.cell 2 rfl;have f2:=hy2.fz 2;have hy3:=hy2.set 2 (.int .i64 y.t);have z3:=hy3.cell 3 rfl;have f3:=hy3.fz 3;have hy4:=hy3.set 3 (.int .i64 y.n);have HXF:=Lh hy4;clear hy0 hy1 hy2 hy3 hy4;go_simp;clear z0 f0 z1 f1 z2 f2 z3 f3;refine hK _ _ (fun h=>absurd h (by decide)) ?_;clear hK K;(try simp only[Act.put]);refine tD 15 ⟨some 18,Op.assign (.tmp 116),4,_,_,_⟩ rfl fun K hK=>?_
         go_simp;refine hK _ _ (fun h=>absurd h (by decide)) ?_;clear hK K;(try go_frame);refine Qao (by kernel_rfl) ?_ _;refine⟨rfl,bn,rfl,HXF.out,HBN.out,((((((((HB2.out).setCell (p:=⟨bn,0,none⟩) HBN.out (.string y.s))).setCell (p:=⟨bn,1,none⟩) HBN.out (.string y.key))).setCell (p:=⟨bn,2,none⟩) HBN.out (.int .i64 y.t))).setCell (p:=⟨bn,3,none⟩) HBN.out (.int .i64 y.n))⟩
       rintro _ w9 ⟨ov,rfl,hx,ho,hb⟩;have HXv:=Lh hx;have HOv:=Lh ho;have HDv:=Lh hb;clear hx ho hb;go_frame;have HB29:Hid (Below W2.heap.size W2 w9):=Lh (HB2q.out.trans (HDv.out.mono HB2q.out.size));have HB69:Hid (Below w6.heap.size w6 w9):=Lh (HB6q.out.trans (HDv.out.mono HB6q.out.size));have HB89:Hid (Below w8.heap.size w8 w9):=Lh (HBq.out.trans (HDv.out.mono HBq.out.size));have y0:=HXv.out.cell 0 rfl;go_upto_region 24 with(fail);clear y0;refine Qah [13] (fun i=>if i=13 then SP.val (.int .i64 (G:Int)) else SP.any) 15 (by kernel_rfl) (by kernel_rfl) ?_;intro T _ g hg hgm;have HD6:Hid (∀d,Below w6.heap.size w6 (g d)):=Lh fun d=>HB69.out.trans ((hg d).mono HB69.out.size)
       have p2:∀d,(g d).cell? ⟨X1,2,none⟩=some (.int .i64 en):=fun d=>(HXp6.out.to (HD6.out d)).cell 2 rfl
       have p3:∀d,(g d).cell? ⟨X1,3,none⟩=some (.int .i64 ve):=fun d=>(HXp6.out.to (HD6.out d)).cell 3 rfl
       have p4:∀d,(g d).cell? ⟨X1,4,none⟩=some (.slice (some ⟨bl,ol,none⟩) nb c2):=fun d=>(HXp6.out.to (HD6.out d)).cell 4 rfl
       have l0:∀d,(g d).cell? ⟨bl,ol+j*4,none⟩=some (.int .i64 (f:Int)):=fun d=>(HLC.out (g d) (HD6.out d)).1
       (repeat(refine Qaf (by rfl) fun Kq hq=>?_;go_big_quiet_step (fail);refine wpQuiet_nil (hq _ ?_);clear hq Kq));refine Qam (by rfl) (by rfl) (fun d hG K Q hK=>?_) (fun v d hG hp Kr hr=>?_)
       ·go_simp;go_at_call 29;refine(HGR.out (g d) (HB29.out.trans ((hg d).mono HB29.out.size))).mono ?_;rintro e W1 ⟨rfl,hb1⟩;go_simp;exact hK _ _ hb1 (rfl)
       have hp:v=.int .i64 (G:Int):=hp;subst hp;(try clear hp);clear hG;go_frame;refine hr _ ?_;clear hr Kr;(repeat(refine Qaf (by rfl) fun Kq hq=>?_;go_big_quiet_step (fail);refine wpQuiet_nil (hq _ ?_);clear hq Kq));refine wpR_end (by kernel_rfl) (fun d hG=>?_) _;have HBg:Hid (Below w9.heap.size w9 (g d)):=Lh (hg d);clear p2 p3 p4 l0 HD6;have HBd:=Lh (hg d);clear hG hg hgm;unfold Exit.then;generalize g d=wg at*;clear g;have HBrg:Hid (Below wr.heap.size wr wg):=Lh (HDv.out.trans (HBg.out.mono HDv.out.size));have HB8g:Hid (Below w8.heap.size w8 wg):=Lh (HB89.out.trans (HBg.out.mono HB89.out.size));have HB2g:Hid (Below W2.heap.size W2 wg):=Lh (HB29.out.trans (HBg.out.mono HB29.out.size));by_cases h0:G=0
       ·have hG0:((G:Int) != 0)=false:=by rw[h0];rfl
        have e1:=HEC.out wg HBrg.out;rw[if_pos h0] at e1;go_wp2_with fail;go_roundw;(case rel=>exact⟨q+1,by have:=HQL.out;omega,by go_num,HB8g⟩);case measure=>(have:=HQL.out;first|(simp[intOf];done)|(simp[intOf];omega))
       ·have hG0:((G:Int) != 0)=true:=bne_iff_ne.2 (by omega);have y0:=(HXv.out.to HBg.out).cell 0 rfl
        go_wp2_with (first|(go_at_call 33;refine(Qbi y.s wg (HT2.out.to HB2g.out).1).mono ?_;rintro e w' ⟨rfl,rfl⟩)|(go_at_call 32;refine(Qcs (Qat y.s) (QbL _) wg (HT2.out.to HB2g.out)).mono ?_;rintro e wh ⟨rfl,hb⟩;have e1:=HEC.out wh (HBrg.out.trans (hb.mono HBrg.out.size));rw[if_neg h0] at e1;have HB8h:Hid (Below w8.heap.size w8 wh):=Lh (HB8g.out.trans (hb.mono HB8g.out.size));clear hb y0)|fail)
        go_roundw;(case rel=>exact⟨q+1,by have:=HQL.out;omega,by go_num,HB8h⟩);case measure=>(have:=HQL.out;first|(simp[intOf];done)|(simp[intOf];omega))
      ·obtain rfl:q=nf:=by omega
       have hqI:¬(q:Int)<(q:Int):=(by omega);go_wp2_with fail;go_roundw;(case rel=>exact⟨j+1,by have:=HJL.out;omega,by go_num,HB6q⟩);case measure=>(have:=HJL.out;first|(simp[intOf];done)|(simp[intOf];omega))
    ·obtain rfl:j=nb:=by omega
     have hjI:¬(j:Int)<(j:Int):=(by omega);go_wp2_with fail;go_roundw;(case rel=>exact⟨k+1,by have:=HKL.out;omega,by go_num,HB6j⟩);case measure=>(have:=HKL.out;first|(simp[intOf];done)|(simp[intOf];omega))
  ·obtain rfl:k=n:=by omega
   have hkI:¬(k:Int)<(k:Int):=(by omega);have HBF:Hid (Below W1.heap.size W1 wr):=Lh (HB.out.trans (HBw.out.mono HB.out.size));have HL:=Lh (lives32_any wr (HT.out.to HBF.out))
   go_wp2_with (first|(go_at_call 20;refine HL.out.mono ?_;rintro e w2 ⟨rfl,hb2⟩;have HBE:Hid (Below W1.heap.size W1 w2):=Lh (HBF.out.trans (hb2.mono HBF.out.size));clear hb2)|fail)
   go_ret;exact⟨rfl,HBE.out⟩
end Go.Proofs.YtegaapiocihcpaaGreatDoor
namespace Go.Proofs.YtegaapiocihcpaaGreatDoor
open Go.ChangeShapes Go.WideShapes Go.ChangeAt Go.RowKit Go.Deep
variable {H:Type} {enc:TypeId × Value→H} {P:Program}
end Go.Proofs.YtegaapiocihcpaaGreatDoor
namespace Go.Proofs.YtegaapiocihcpaaGreatDoor
open Go.ChangeShapes Go.WideShapes Go.ChangeAt Go.RowKit Go.Deep
variable {H:Type} {enc:TypeId × Value→H} {P:Program}
theorem QcP {t e:TypeId}{W:World}{base:Nat}{v:Value}{d:DataW H}{ps:List MemPlace}(ht:P.underlying t=some (.slice e))(he:P.underlying e=some (.int .i64))(hc:P.cellsOf e=1) (hval:Value.okWide P W .any base t v) (h:DataW.Trod enc P W 0 (fun _=>true) true t v d ps):∃A c,∃l:List Int,v=.slice A l.length c∧Sl W (fun b=>b<W.heap.size) A c l:=by
 obtain⟨a,len,cap,rfl⟩:=okWide_slice ht hval;obtain⟨fuel,hf⟩:=h;rcases open_ints ht he hc hf with⟨hcs,_⟩|⟨a',len',cap',zs,hcs,_,hl,hm,hz,_,hcell,hwf⟩
 ·simp[Value.cells] at hcs;obtain⟨rfl,rfl,rfl⟩:=hcs;exact⟨none,0,[],rfl,Sl.nil _ _ _ _ (by simp[maxLen])⟩
 ·simp[Value.cells] at hcs;obtain⟨rfl,rfl,rfl⟩:=hcs;have hz':zs.length=cap:=(by simpa using hz);have hlt:(zs.take len).length=len:=(by rw[qK];omega);refine⟨some a',cap,zs.take len,by rw[hlt],by rw[hlt];exact hl,hm,fun h0=>?_⟩;obtain⟨b,o,rfl,hat⟩:=Go.ints_at hcell (by omega);refine⟨b,o,rfl,World.block_lt_of_cell? W _ (hat 0 (by omega)),World.block_lt_of_cell? W _ (hat 0 (by omega)),fun i hi=>?_⟩;rw[hlt] at hi
  have e:zs.getD i 0=(zs.take len)[i]'(by omega):=by
   rw[List.getElem_take,List.getD_eq_getElem?_getD,qG (by omega)];rfl
  refine⟨[.int .i64 (zs.getD i 0)],⟨by rw[e],?_⟩,fun j u hu=>?_⟩
  ·exact i64_wf (hwf _ (List.mem_of_mem_take (List.getElem_mem (by omega))))
  ·have hj:j=0:=by
    rcases j with _|j
    ·rfl
    ·simp at hu
   subst hj;simp only[List.getElem?_cons_zero,Option.some.injEq] at hu;subst hu;have:=hat i (by omega);show W.cell? ⟨b,o+i*1+0,none⟩=_;rw[Nat.mul_one,Nat.add_zero];exact this
end Go.Proofs.YtegaapiocihcpaaGreatDoor
namespace Go.Proofs.YtegaapiocihcpaaGreatDoor.rowViewBoxes
open Go.ChangeShapes Go.WideShapes Go.ChangeAt Go.RowKit
set_option maxRecDepth 100000 in
theorem contract (H:Type)(enc:TypeId × Value→H)(W:World)(base:Nat)(args:Array Value)(ds gs:List (DataW H))(before:List MemPlace) (hval:∀(j:Nat) t v,Tryz.f8.params[j]? =some t→args[j]? =some v→Value.okWide Tryz.prog W .any base t v) (hW:DataW.Whole enc Tryz.prog Tryz.f8.params.toList Rows.viewBoxesSpec.vars false W args.toList ds gs before) (hL:laidMetH Tryz.prog laidL W):
 Calls Tryz.prog 8 args W fun e W'=>∃v,e=.returned v∧Rows.viewBoxesSpec.post enc Tryz.prog Tryz.f8 false true false false W args v W':=by
 have hW':=hW;obtain⟨p,q,hA0,hV,rfl,hfz,hnd⟩:=hW;have hA:DataW.TrodAll enc Tryz.prog W 0 (fun _=>true) true Tryz.f8.params.toList args.toList ds p:=hA0;rw[Tryz.params8] at hA hval;obtain⟨v0,vs0,d0,ds0,p0,q0,hargs,rfl,rfl,h0,r0⟩:=trodAll_cons hA;obtain⟨v1,vs1,d1,ds1,p1,q1,rfl,rfl,rfl,h1,r1⟩:=trodAll_cons r0;obtain⟨rfl,rfl,rfl⟩:=trodAll_nil r1;obtain rfl:args=#[v0,v1]:=by cases args;simp_all
 obtain⟨rfl,rfl⟩:=trodVars_none hV;obtain⟨A0,c0,l0,rfl,hl0⟩:=QcP Tryz.underlying22 Tryz.underlying3 cells_int (hval 0 22 v0 rfl rfl) h0;obtain⟨A1,c1,l1,rfl,hl1⟩:=QcP Tryz.underlying22 Tryz.underlying3 cells_int (hval 1 22 v1 rfl rfl) h1;refine(viewboxes_any A0 c0 l0 A1 c1 l1 W hl0 hl1 (tabs_of hL)).mono fun e W' ⟨he,hb⟩=>?_
 subst he;exact⟨_,rfl,row_close laidOut Tryz.underlying4 (by kernel_rfl) (by kernel_rfl) rfl hW' rfl hb⟩
theorem laid_met (os:Os):laidMet Tryz.prog Rows.viewBoxesRow.laid ((laidWorld os).forCall (fun _ _=>0) ⟨#[],#[.slice none 0 0,.slice none 0 0],[]⟩).memory:=
 laidMet_of_run' 8 (by kernel_rfl) (by kernel_rfl)
theorem reads (os:Os){H:Type}(enc:TypeId × Value→H):∃places,DataW.whole enc Tryz.prog ((laidWorld os).forCall (fun _ _=>0) ⟨#[],#[.slice none 0 0,.slice none 0 0],[]⟩).memory Tryz.f8.params.toList Rows.viewBoxesSpec.vars false (#[.slice none 0 0,.slice none 0 0]:Array Value).toList 8=some ([.nil,.nil],[],places):=
 ⟨[],by kernel_rfl⟩
set_option maxRecDepth 100000 in
theorem lifted (os:Os)(started:os.Started)(H:Type)(enc:TypeId × Value→H)(F:Stop.Interp):
 ReturnsInHanded {} Tryz.checked os 8 .any ((OpenSpec.ofChange Rows.viewBoxesSpec).preRow enc Tryz.prog Tryz.f8 Rows.viewBoxesRow.domain false Rows.viewBoxesRow.laid) (((OpenSpec.ofChange Rows.viewBoxesSpec).at F).post enc Tryz.prog Tryz.f8 false true false false):=by
 obtain⟨places,hx⟩:=reads os enc
 refine returnsInHanded_of_row (C:=Tryz.checked) (s:=(OpenSpec.ofChange Rows.viewBoxesSpec)) own started (by kernel_rfl) Tryz.func8
  (witness_row_at (enc:=enc) (C:=Tryz.checked) false (laidWorld os) #[.slice none 0 0,.slice none 0 0] rfl (by kernel_rfl) (by kernel_rfl) (by kernel_rfl) (OpenSpec.preRow_of_cond 8 hx (by kernel_rfl) (fun k hk=>by cases hk) (by kernel_rfl) (laid_met os))) ?_
 intro W base args ds gs before hval hW _ _ _ hL _ _;exact contract H enc W base args ds gs before hval hW hL
theorem said:Rows.ViewBoxesSaid:=
 OpenClaim.holds_of_cond 8 Tryz.f8 rfl rfl rfl rfl rfl rfl rfl ⟨rfl,rfl,rfl,rfl,rfl⟩ rfl rfl rfl rfl rfl (by kernel_rfl) Tryz.func8 (by kernel_rfl) (of_decide_eq_true (by kernel_rfl)) (by unfold Func.isWrapper;first|(rw[if_pos (by decide +kernel)];kernel_rfl)|(rw[if_neg (by decide +kernel)];exact⟨rfl,rfl⟩)) (fun os started H enc _ F=>by rw[OpenClaim.pre_eq_preRow];exact lifted os started H enc F)
theorem wants:Tryz.f8.params.all (fun t=> !Tryz.prog.wantsStandIn t)=true:=by kernel_rfl
theorem plain (f:FuncId)(fn:Func)(hf:Tryz.pinned.checked.prog.funcNamed "rollbook/rollbooklaw32.ViewBoxes" =some f)(hfn:Tryz.pinned.checked.prog.funcs[f]? =some fn):
 false=Tryz.pinned.checked.prog.looks []∧∀(j:Nat) t,fn.params[j]? =some t→Tryz.pinned.checked.prog.wantsStandIn t=false:=by
 obtain rfl:f=8:=Option.some.inj ((show Tryz.prog.funcNamed "rollbook/rollbooklaw32.ViewBoxes" =some 8 by kernel_rfl).symm.trans hf) |>.symm;obtain rfl:fn=Tryz.f8:=(Option.some.inj (Tryz.func8.symm.trans hfn)).symm;refine⟨by kernel_rfl,fun j t ht=>?_⟩;have:=Array.all_eq_true_iff_forall_mem.1 wants t (Array.mem_of_getElem? ht);exact(by simpa using this:Tryz.prog.wantsStandIn t=false)
theorem card:Rows.ViewBoxesCardSaid:=
 Claim7.holds_tied_plain_at .later [] _ _ _ _ said (fun _ h=>by cases h) (by kernel_rfl) (fun _ h=>by cases h) viewBoxes_row_tie rfl ⟨rfl,rfl⟩ (by kernel_rfl) rfl plain (by kernel_rfl)
#print axioms card
end Go.Proofs.YtegaapiocihcpaaGreatDoor.rowViewBoxes
