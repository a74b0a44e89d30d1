/- Texts of VwCOp. -/
import Derived.Test.YtegaapiocihcpaaGreatDoorVZd9
import Derived.Deep.Slices
import Derived.Deep.Fields
import Derived.ChangeSame
import Derived.ChangeMaps5
import Derived.OpenShut
set_option maxHeartbeats 16000000
namespace Go.Proofs.YtegaapiocihcpaaGreatDoor
open Go.RowKit
theorem lxS_sl {w:World}{b:Nat}(h:ABox w b 118 [.int .i64 5,.int .i64 7,.int .i64 1,.int .i64 3,.int .i64 3]){S:Nat→Prop}(hS:S b):Sl w S (some ⟨b,0,none⟩) 1 lxS:=
 Sl.block (l:=lxS) h hS (by decide) (fun i hi=>by
  obtain rfl:i=0:=by simpa[lxS] using hi
  exact⟨rfl,show(⟨5,7,1,3,3⟩:Seal).ok from by refine⟨?_,?_,?_,?_,?_⟩<;>exact⟨by decide,by decide⟩⟩)
theorem lxN_sl {w:World}{b:Nat}(h:ABox w b 118 [.int .i64 5,.int .i64 7,.int .i64 2,.int .i64 3,.int .i64 2]){S:Nat→Prop}(hS:S b):Sl w S (some ⟨b,0,none⟩) 1 [(⟨5,7,2,3,2⟩:Seal)]:=
 Sl.block (l:=[(⟨5,7,2,3,2⟩:Seal)]) h hS (by decide) (fun i hi=>by
  obtain rfl:i=0:=by simpa using hi
  exact⟨rfl,show(⟨5,7,2,3,2⟩:Seal).ok from by refine⟨?_,?_,?_,?_,?_⟩<;>exact⟨by decide,by decide⟩⟩)
structure LvI (W1 w:World)(b0 bb:Nat)(Ab:Option Addr)(cb:Nat):Prop where
 b:Below W1.heap.size W1 w
 tx:ABox w (b0+1+1) 36 [.slice (some ⟨b0+1,0,none⟩) 1 1,.slice none 0 0]
 ts:Sl w (fun b=>b<w.heap.size) (some ⟨b0+1,0,none⟩) 1 [lxW]
 bx:ABox w bb 25 [.int .i64 500,.int .i64 10,.slice Ab lx.length cb]
 sm:SM w Ab cb lx
theorem LvI.to {W1 w w':World}{b0 bb:Nat}{Ab:Option Addr}{cb:Nat}(h:LvI W1 w b0 bb Ab cb)(hb:Below w.heap.size w w'):LvI W1 w' b0 bb Ab cb:=⟨h.b.trans (hb.mono h.b.size),h.tx.to hb,h.ts.to hb,h.bx.to hb,h.sm.to hb⟩
theorem LvI.ok {W1 w:World}{b0 bb:Nat}{Ab:Option Addr}{cb:Nat}(h:LvI W1 w b0 bb Ab cb):BookOk w 500 10 Ab cb lx:=⟨h.sm.t.1,h.sm.s,lx_ok.2.1,lx_ok.2.2,⟨by decide,by decide⟩,Nat.le_trans lx_len (by decide)⟩
theorem lx_heq:∀s∈lx,s.texts.length=s.vers.length:=by decide
theorem lxS_g:∀s∈lxS,0≤s.g∧s.g<16:=by decide
theorem lxM_g:∀s∈lxM,0≤s.g∧s.g<16:=by decide
theorem ok_lxW:∀x∈Qaz ⟨[lxW],[]⟩,x.s.size≤1000:=by decide
theorem lx_short:Qbh [lxW]∧Qbh []:=by decide +kernel
theorem lx_add {w:World}{A1:Option Addr}(hT:Tabs w)(ht:Sl w (fun b=>b<w.heap.size) A1 1 [lxW]):
 Calls Tryz.prog 61 #[.agg #[.int .i64 500,.int .i64 10,.slice none 0 0],.int .i64 5,.int .i64 7,.agg #[.slice A1 1 1,.slice none 0 0]] w fun e w'=>∃A c,e=.returned (.tuple #[.agg #[.int .i64 500,.int .i64 10,.slice A lx.length c],.int .i64 0])∧SM w' A c lx∧Below w.heap.size w w':=by
 have e1:([]++[(⟨5,false,[7],[⟨[lxW],[]⟩]⟩:SectP)])=lx:=rfl;have h:=add_ok none 0 [] 500 10 5 7 A1 none 1 0 [lxW] [] w hT.1 (Sl.nil _ _ _ _ (by simp[maxLen])) lx_ok.1.1 lx_ok.1.2 ⟨by decide,by decide⟩ ht (Sl.nil _ _ _ _ (by simp[maxLen])) lx_short.1 lx_short.2 lx_find (by decide) (by decide) lx_wrong (by decide) (by rw[e1];exact Nat.le_trans lx_len (by decide));rw[e1] at h;refine h.mono ?_;rintro x V2 ⟨u,rfl,ho,hb⟩;obtain⟨Ab,cb,rfl,hs,-⟩:=ho.sm hT hb;exact⟨Ab,cb,by rw[fits_ok (Nat.le_trans lx_len (by decide))],hs,hb⟩
set_option maxRecDepth 100000 in
theorem lives32_any (W1:World)(hT:Tabs W1):Calls Tryz.prog 20 #[] W1 fun e w'=>e=.returned (.bool true)∧Below W1.heap.size W1 w':=by
 have HT:=Lh hT;clear hT;go_enter Tryz.func20,Tryz.ntmps20;go_upto_region 2 with(fail);obtain⟨b0,hb0⟩:∃q,W1.heap.size=q:=⟨_,rfl⟩;obtain⟨W2,hW2⟩:∃W2,((W1.alloc (.cells #[.string ⟨#[111,110,101]⟩,.string ⟨#[]⟩,.int .i64 0,.int .i64 0,.string ⟨#[116,119,111]⟩,.string ⟨#[]⟩,.int .i64 0,.int .i64 0,.string ⟨#[116,104,114,101,101]⟩,.string ⟨#[]⟩,.int .i64 0,.int .i64 0,.string ⟨#[102,111,117,114]⟩,.string ⟨#[]⟩,.int .i64 0,.int .i64 0] 66)).alloc (.cells #[.slice (some ⟨W1.heap.size,0,none⟩) 4 4] 110)).alloc (.cells #[.slice (some ⟨W1.heap.size+1,0,none⟩) 1 1,.slice none 0 0] 36)=W2:=⟨_,rfl⟩;rw[hW2];have hba:Below W1.heap.size W1 W2:=by rw[←hW2];exact((bR.alloc nL _).alloc (by simp) _).alloc (by simp;omega) _
 have hx0:ABox W2 W1.heap.size 66 [.string ⟨#[111,110,101]⟩,.string ⟨#[]⟩,.int .i64 0,.int .i64 0,.string ⟨#[116,119,111]⟩,.string ⟨#[]⟩,.int .i64 0,.int .i64 0,.string ⟨#[116,104,114,101,101]⟩,.string ⟨#[]⟩,.int .i64 0,.int .i64 0,.string ⟨#[102,111,117,114]⟩,.string ⟨#[]⟩,.int .i64 0,.int .i64 0]:=by rw[←hW2];exact(Below.heap_alloc _ _ _ (by first|(simp;done)|(simp;omega))).trans ((Below.heap_alloc _ _ _ (by simp)).trans (heap_alloc_new W1 _))
 have hx1:ABox W2 (W1.heap.size+1) 110 [.slice (some ⟨W1.heap.size,0,none⟩) 4 4]:=by rw[←hW2];exact(Below.heap_alloc _ _ _ (by simp)).trans (Qan (by simp))
 have hx2:ABox W2 (W1.heap.size+1+1) 36 [.slice (some ⟨W1.heap.size+1,0,none⟩) 1 1,.slice none 0 0]:=by rw[←hW2];exact Qan (by simp)
 have hts:=lx_sl hx0 hx1;rw[hb0] at hts hx2 ⊢;have HBA:=Lh hba;have HTX:=Lh hx2;have HTS:=Lh hts;have HT2:=Lh (HT.out.to hba);clear hW2 hba hx0 hx1 hx2 hts hb0;have y0:=HTX.out.cell 0 rfl;have y1:=HTX.out.cell 1 rfl;have HAD:=Lh (lx_add HT2.out HTS.out)
 go_upto_region 3 with(first|(go_at_call 61;refine HAD.out.mono ?_;rintro x V2 ⟨Ab,cb,rfl,hs,hb⟩;have HSM:=Lh hs;have HB2:=Lh hb;clear hs hb y0 y1 HAD)|fail)
 obtain⟨W3,hW3⟩:∃W3,V2.alloc (.cells #[.int .i64 500,.int .i64 10,.slice Ab lx.length cb] 25)=W3:=⟨_,rfl⟩;obtain⟨bb,hbb⟩:∃q,V2.heap.size=q:=⟨_,rfl⟩
 have HI:Hid (LvI W1 W3 b0 bb Ab cb):=Lh (by
  have h1:Below V2.heap.size V2 W3:=(by rw[←hW3];exact bR.alloc nL _)
  have h2:Below W2.heap.size W2 W3:=HB2.out.trans (h1.mono HB2.out.size)
  exact⟨HBA.out.trans (h2.mono HBA.out.size),HTX.out.to h2,HTS.out.to h2,by rw[←hW3,←hbb];exact heap_alloc_new V2 _,HSM.out.to h1⟩)
 (try rw[hW3]);(try rw[hbb]);clear hW3 hbb HBA HTX HTS HT2 HSM HB2;have q0:=HI.out.bx.cell 0 rfl;have q1:=HI.out.bx.cell 1 rfl;have q2:=HI.out.bx.cell 2 rfl
 go_upto_region 4 with(first|(go_at_call 26;refine(QbQ HI.out.ok).mono ?_;rintro e W4 ⟨v,R,rfl,ho,-,hb⟩;rw[Qc5] at ho;obtain⟨Ap,cp,rfl,hs⟩:=ho.plain.sl;have HP4:=Lh hs;have HI4:=Lh (HI.out.to hb);clear ho hs hb q0 q1 q2 HI)|fail)
 go_upto_region 5 with(fail);obtain⟨W5,hW5⟩:∃W5,W4.alloc (.cells #[.int .i64 5,.int .i64 7,.int .i64 1,.int .i64 3,.int .i64 3] 118)=W5:=⟨_,rfl⟩;obtain⟨bs,hbs⟩:∃q,W4.heap.size=q:=⟨_,rfl⟩;have h1:Below W4.heap.size W4 W5:=by rw[←hW5];exact bR.alloc nL _
 have HI5:=Lh (HI4.out.to h1);have HP5:=Lh (HP4.out.to h1);have HX5:Hid (ABox W5 bs 118 [.int .i64 5,.int .i64 7,.int .i64 1,.int .i64 3,.int .i64 3]):=Lh (by rw[←hW5,←hbs];exact heap_alloc_new W4 _);rw[hW5,hbs];clear hW5 hbs h1 HI4 HP4;have HOW0:Hid (Own (W5.alloc (.cells #[] 118)) W5.heap.size 118 (.slice (some ⟨W5.heap.size,0,none⟩) 0 0) ([]:List Seal)):=Lh (Own.made W5 W5.heap.size _ nL);have HB50:Hid (Below W5.heap.size W5 (W5.alloc (.cells #[] 118))):=Lh (bR.alloc nL _)
 go_upto_region 6 with(first|(at_builtin;refine QaA (α:=Seal) _ rfl (.tmp 29) (.tmp 30) 26 rfl W5.heap.size 118 (.agg #[.int .i64 0,.int .i64 0,.int .i64 0,.int .i64 0,.int .i64 0]) 40 Tryz.underlying26 QbM rfl (by decide) _ [] rfl HOW0.out (some ⟨bs,0,none⟩) 1 1 lxS rfl rfl (fun b=>b=bs) (lxS_sl (HX5.out.to HB50.out) rfl) (fun i hi _ e=>by have h1:=HX5.out.lt;have h2:some i=some W5.heap.size:=e;have h3:=Option.some.inj h2;have h4:i=bs:=hi;omega) (by decide) (by decide) HB50.out.size ?_;intro v2 w2 hown2 hg2 hat2;have HB51:Hid (Below W5.heap.size W5 w2):=Lh (HB50.out.grown hg2 HB50.out.size (fun r hr=>by have h2:some W5.heap.size=some r:=hr;have h3:=Option.some.inj h2;omega));obtain⟨A2,c2,rfl,-⟩:=hown2.form;have HOW1:Hid (Own w2 W5.heap.size 118 (.slice A2 1 c2) lxS):=Lh hown2;clear hown2 hg2 hat2)|(at_builtin;refine QaA (α:=Seal) _ rfl (.tmp 31) (.tmp 33) 26 rfl W5.heap.size 118 (.agg #[.int .i64 0,.int .i64 0,.int .i64 0,.int .i64 0,.int .i64 0]) 40 Tryz.underlying26 QbM rfl (by decide) _ lxS rfl (HOW1.out.alloc _) (some ⟨w2.heap.size,0,none⟩) 1 1 [(⟨5,7,2,3,2⟩:Seal)] rfl rfl (fun b=>b=w2.heap.size) (lxN_sl (heap_alloc_new w2 _) rfl) (fun i hi _ e=>by have h4:i=w2.heap.size:=hi;have:=(HOW1.out.lt i e.symm).2;omega) (by decide) (by decide) (by have:=HB51.out.size;simp;omega) ?_;intro v3 w3 hown3 hg3 hat3;have HB52:Hid (Below W5.heap.size W5 w3):=Lh ((HB51.out.alloc HB51.out.size _).grown hg3 (by have:=HB51.out.size;simp;omega) (fun r hr=>(HOW1.out.lt r hr).1));obtain⟨A3,c3,rfl,-⟩:=hown3.form;have HOW2:Hid (Own w3 W5.heap.size 118 (.slice A3 2 c3) lxM):=Lh hown3;clear hown3 hg3 hat3)|fail)
 have e1:lxS.length+1=2:=rfl;rw[e1];clear e1;have HI6:=Lh (HI5.out.to HB52.out);have HP6:=Lh (HP5.out.to HB52.out);have HX6:=Lh (HX5.out.to HB52.out)
 have HM6:Hid (Sl w3 (fun b=>b<w3.heap.size) A3 c3 lxM):=Lh (by
  obtain⟨A,c,e,h⟩:=HOW2.out.sl
  cases e
  exact h)
 clear HI5 HP5 HX5 HOW0 HOW1 HOW2 HB50 HB51 HB52;obtain⟨bp,op,A1,c1,A4,c4,rfl,-,hlp,p0,p1,p2,p3,p4,p5,hs1,hs2⟩:=pageS_at HP6.out (k:=0) (by decide);obtain⟨bl,ol,Ag,cg,An,cn,rfl,-,hll,l0,l1,l2,l3,hsg,hsn⟩:=QbA hs1 (k:=0) (by decide)
 have HPC:Hid (∀W,Below w3.heap.size w3 W→W.cell? ⟨bp,op,none⟩=some (.int .i64 1)∧W.cell? ⟨bp,op+1,none⟩=some (.int .i64 0)∧W.cell? ⟨bp,op+2,none⟩=some (.int .i64 5)∧W.cell? ⟨bp,op+3,none⟩=some (.int .i64 7)∧W.cell? ⟨bp,op+4,none⟩=some (.slice (some ⟨bl,ol,none⟩) 1 c1)∧W.cell? ⟨bp,op+5,none⟩=some (.slice A4 0 c4)∧ W.cell? ⟨bl,ol,none⟩=some (.int .i64 0)∧W.cell? ⟨bl,ol+1,none⟩=some (.int .i64 4)∧W.cell? ⟨bl,ol+2,none⟩=some (.slice Ag 3 cg)∧W.cell? ⟨bl,ol+3,none⟩=some (.slice An 0 cn)):=Lh fun W hW=>
  ⟨(hW.cell (p:=⟨bp,op,none⟩) hlp).trans p0,(hW.cell (p:=⟨bp,op+1,none⟩) hlp).trans p1,(hW.cell (p:=⟨bp,op+2,none⟩) hlp).trans p2,(hW.cell (p:=⟨bp,op+3,none⟩) hlp).trans p3,(hW.cell (p:=⟨bp,op+4,none⟩) hlp).trans p4,(hW.cell (p:=⟨bp,op+5,none⟩) hlp).trans p5,(hW.cell (p:=⟨bl,ol,none⟩) hll).trans l0,(hW.cell (p:=⟨bl,ol+1,none⟩) hll).trans l1,(hW.cell (p:=⟨bl,ol+2,none⟩) hll).trans l2,(hW.cell (p:=⟨bl,ol+3,none⟩) hll).trans l3⟩
 clear p0 p1 p2 p3 p4 p5 l0 l1 l2 l3 hs1 hs2 hsg hsn HP6;have p4:=(HPC.out w3 bR).2.2.2.2.1;go_upto_region 8 with(fail);clear p4;have HWD:=Lh (fun(s:ByteArray)=>Qby s w3 HI6.out.sm.t.1);have HBX:=Lh (fun(n:Int) (hn:I64 n) (W:World) (hW:Below w3.heap.size w3 W)=>Qc3 n hn W (HI6.out.sm.t.to hW));have HE:=Lh lx_box
 go_upto_region 9 with(first|(go_at_call 33;refine(Qby _ w3 HI6.out.sm.t.1).mono ?_;rintro e w' ⟨rfl,rfl⟩)|(go_at_call 32;refine(Qc3 _ (Qco _) w3 HI6.out.sm.t).mono ?_;rintro e W7 ⟨rfl,hb⟩;rw[HE.out.1];have HI7:=Lh (HI6.out.to hb);have HB7:=Lh hb;clear hb)|fail)
 go_upto_region 10 with(first|(go_at_call 33;refine(Qby _ W7 HI7.out.sm.t.1).mono ?_;rintro e w' ⟨rfl,rfl⟩)|(go_at_call 32;refine(Qc3 _ (Qco _) W7 HI7.out.sm.t).mono ?_;rintro e W8 ⟨rfl,hb⟩;rw[HE.out.2];have HI8:=Lh (HI7.out.to hb);have HB8:=Lh (HB7.out.trans (hb.mono HB7.out.size));clear hb)|fail)
 have HPV:=Lh (lx_good.pv);have HPL:Hid ((Qae 500 10 lx).length≤1048576):=Lh (Nat.le_trans lx_len (by decide));have HSS:Hid (∀W,Below w3.heap.size w3 W→Sl W (fun b=>b<W.heap.size) (some ⟨bs,0,none⟩) 1 lxS):=Lh fun W hW=>lxS_sl (HX6.out.to hW) (by have:=HX6.out.lt;have:=hW.size;show bs<W.heap.size;omega)
 have HSH:Hid (∀W,Below w3.heap.size w3 W→LvI W1 W b0 bb Ab cb→Calls Tryz.prog 16 #[.agg #[.int .i64 500,.int .i64 10,.slice Ab lx.length cb],.slice (some ⟨bs,0,none⟩) 1 1] W fun r W'=>∃v,r=.returned v∧Own W' W.heap.size 46 v [(⟨⟨#[49]⟩,[⟨#[111,110,101,32,91,50,54,93,32,91,51,54,93,32,102,111,117,114]⟩],[]⟩:SheetP)]∧Below W.heap.size W W'):=Lh fun W hW hl=>by
  have:=sheets_any (some ⟨bs,0,none⟩) 1 1 lxS hl.ok hl.sm.t lx_heq HPV.out HPL.out (HSS.out W hW) rfl (by decide) lxS_g;rwa [lx_sheets] at this
 have HAX:Hid (∀W,Below w3.heap.size w3 W→LvI W1 W b0 bb Ab cb→Calls Tryz.prog 22 #[.agg #[.int .i64 500,.int .i64 10,.slice Ab lx.length cb],.int .i64 2,.slice (some ⟨bs,0,none⟩) 1 1,.int .i64 8] W fun r W'=>∃v,r=.returned v∧Own W' W.heap.size 61 v [(⟨2,1,0,1,⟨#[116,119,111,32,116,104,114,101,101]⟩⟩:MarkP)]∧Below W.heap.size W W'):=Lh fun W hW hl=>by
  have:=Qda 2 8 (some ⟨bs,0,none⟩) 1 1 lxS hl.ok hl.sm.t lx_heq HPV.out HPL.out (by rw[lx_annex];decide) (HSS.out W hW) rfl (by decide) lxS_g;rwa [lx_annex] at this
 have HAY:Hid (∀W,Below w3.heap.size w3 W→LvI W1 W b0 bb Ab cb→Calls Tryz.prog 22 #[.agg #[.int .i64 500,.int .i64 10,.slice Ab lx.length cb],.int .i64 2,.slice (some ⟨bs,0,none⟩) 1 1,.int .i64 4] W fun r W'=>∃A c,r=.returned (.slice A 0 c)∧Below W.heap.size W W'):=Lh fun W hW hl=>by
  have h:=Qda 2 4 (some ⟨bs,0,none⟩) 1 1 lxS hl.ok hl.sm.t lx_heq HPV.out HPL.out (by rw[lx_annex0];decide) (HSS.out W hW) rfl (by decide) lxS_g;rw[lx_annex0] at h;refine h.mono ?_;rintro r W' ⟨v,rfl,ho,hb⟩;obtain⟨A,c,rfl,-⟩:=ho.form;exact⟨A,c,rfl,hb⟩
 have q0:=HI8.out.bx.cell 0 rfl;have q1:=HI8.out.bx.cell 1 rfl;have q2:=HI8.out.bx.cell 2 rfl
 go_upto_region 11 with(first|(go_at_call 16;refine(HSH.out W8 HB8.out HI8.out).mono ?_;rintro r W9 ⟨v,rfl,ho,hb⟩;obtain⟨A9,c9,rfl,hs,-,hc9,-⟩:=ho.parts;have HS9:=Lh hs;have HI9:=Lh (HI8.out.to hb);have HB9:=Lh (HB8.out.trans (hb.mono HB8.out.size));clear ho hs hb q0 q1 q2)|fail)
 have q0:=HI9.out.bx.cell 0 rfl;have q1:=HI9.out.bx.cell 1 rfl;have q2:=HI9.out.bx.cell 2 rfl
 go_upto_region 12 with(first|(go_at_call 22;refine(HAX.out W9 HB9.out HI9.out).mono ?_;rintro r W10 ⟨v,rfl,ho,hb⟩;obtain⟨A10,c10,rfl,hs,-,hc10,-⟩:=ho.parts;have HS10:=Lh hs;have HI10:=Lh (HI9.out.to hb);have HB10:=Lh (HB9.out.trans (hb.mono HB9.out.size));have HT9:=Lh (HS9.out.to hb);clear ho hs hb q0 q1 q2)|fail)
 obtain⟨b9,o9,A11,c11,A12,c12,rfl,-,hl9,s0,s1,s2,hs11,hs12⟩:=sheetP_at HT9.out (k:=0) (by decide);obtain⟨b11,o11,rfl,-,hl11,-,s3⟩:=str_at hs11 (k:=0) (by decide);obtain⟨b10,o10,rfl,-,hl10,m0,m1,m2,m3,m4⟩:=mark_at HS10.out (k:=0) (by decide);have HMC:Hid (∀W,Below W10.heap.size W10 W→(W.cell? ⟨b9,o9,none⟩=some (.string ⟨#[49]⟩)∧W.cell? ⟨b9,o9+1,none⟩=some (.slice (some ⟨b11,o11,none⟩) 1 c11)∧W.cell? ⟨b11,o11,none⟩=some (.string ⟨#[111,110,101,32,91,50,54,93,32,91,51,54,93,32,102,111,117,114]⟩))∧W.cell? ⟨b10,o10,none⟩=some (.int .i64 2)∧W.cell? ⟨b10,o10+1,none⟩=some (.int .i64 1)∧W.cell? ⟨b10,o10+2,none⟩=some (.int .i64 0)∧W.cell? ⟨b10,o10+3,none⟩=some (.int .i64 1)∧W.cell? ⟨b10,o10+4,none⟩=some (.string ⟨#[116,119,111,32,116,104,114,101,101]⟩)):=Lh fun W hW=>
  ⟨⟨(hW.cell (p:=⟨b9,o9,none⟩) hl9).trans s0,(hW.cell (p:=⟨b9,o9+1,none⟩) hl9).trans s1,(hW.cell (p:=⟨b11,o11,none⟩) hl11).trans s3⟩,(hW.cell (p:=⟨b10,o10,none⟩) hl10).trans m0,(hW.cell (p:=⟨b10,o10+1,none⟩) hl10).trans m1,(hW.cell (p:=⟨b10,o10+2,none⟩) hl10).trans m2,(hW.cell (p:=⟨b10,o10+3,none⟩) hl10).trans m3,(hW.cell (p:=⟨b10,o10+4,none⟩) hl10).trans m4⟩
 clear s0 s1 s2 s3 m0 m1 m2 m3 m4 hs11 hs12 HS9 HS10 HT9;have q0:=HI10.out.bx.cell 0 rfl;have q1:=HI10.out.bx.cell 1 rfl;have q2:=HI10.out.bx.cell 2 rfl;have s1:=(HMC.out W10 bR).1.2.1
 go_upto_region 14 with(first|(go_at_call 22;refine(HAY.out W10 HB10.out HI10.out).mono ?_;rintro r W11 ⟨A13,c13,rfl,hb⟩;have HI11:=Lh (HI10.out.to hb);have HB11:=Lh (HB10.out.trans (hb.mono HB10.out.size));have HBx:=Lh hb;clear hb q0 q1 q2 s1)|fail)
 have m0:=(HMC.out W11 HBx.out).2.1;have m1:=(HMC.out W11 HBx.out).2.2.1;have m2:=(HMC.out W11 HBx.out).2.2.2.1;have m3:=(HMC.out W11 HBx.out).2.2.2.2.1;have m4:=(HMC.out W11 HBx.out).2.2.2.2.2;go_upto_region 15 with(fail);clear m0 m1 m2 m3 m4;have hj1:([111,110,101,32,91,50,54,93,32,91,51,54,93,32,102,111,117,114]==((⟨#[111,110,101,32]⟩:ByteArray)++(⟨#[91,50,54,93]⟩:ByteArray)++(⟨#[32]⟩:ByteArray)++(⟨#[91,51,54,93]⟩:ByteArray)++(⟨#[32,102,111,117,114]⟩:ByteArray)).toList)=true:=by decide +kernel
 have hj2:([111,110,101,32,116,119,111,32,91,51,54,93,32,102,111,117,114]==((⟨#[111,110,101,32,116,119,111,32]⟩:ByteArray)++(⟨#[91,51,54,93]⟩:ByteArray)++(⟨#[32,102,111,117,114]⟩:ByteArray)).toList)=true:=by decide +kernel
 have HLN:Hid (∀W,Below w3.heap.size w3 W→LvI W1 W b0 bb Ab cb→Calls Tryz.prog 24 #[.agg #[.int .i64 1,.int .i64 0,.int .i64 5,.int .i64 7,.slice (some ⟨bl,ol,none⟩) 1 c1,.slice A4 0 c4],.agg #[.int .i64 0,.int .i64 4,.slice Ag 3 cg,.slice An 0 cn],.agg #[.slice (some ⟨b0+1,0,none⟩) 1 1,.slice none 0 0],.slice A3 2 c3,.int .i64 8] W fun r W'=>r=.returned (.string ⟨#[111,110,101,32,116,119,111,32,91,51,54,93,32,102,111,117,114]⟩)∧Below W.heap.size W W'):=Lh fun W hW hl=>by
  have h:=vline_any 1 0 5 7 (some ⟨bl,ol,none⟩) A4 1 c1 0 c4 0 4 Ag An 3 cg 0 cn (some ⟨b0+1,0,none⟩) none 1 0 [lxW] [] A3 c3 2 lxM 8 W hl.ts (Sl.nil _ _ _ _ (by simp[maxLen])) (by decide) (by decide) (by decide) ok_lxW (HM6.out.to hW) rfl (by decide) lxM_g hl.sm.t (by decide) (by decide);rw[show Qaz ⟨[lxW],[]⟩=lxW from rfl,lx_line] at h;exact h
 refine Qag [35] (fun i=>if i=35 then SP.val (.string ⟨#[111,110,101,32,116,119,111,32,91,51,54,93,32,102,111,117,114]⟩) else SP.any) 42 (by kernel_rfl) (by kernel_rfl) ?_;intro T _ g hg hgm;have e0:∀d,(g d).cell? ⟨b9,o9,none⟩=some (.string ⟨#[49]⟩):=fun d=>(HMC.out (g d) (HBx.out.trans ((hg d).mono HBx.out.size))).1.1
 have e1:∀d,(g d).cell? ⟨b9,o9+1,none⟩=some (.slice (some ⟨b11,o11,none⟩) 1 c11):=fun d=>(HMC.out (g d) (HBx.out.trans ((hg d).mono HBx.out.size))).1.2.1
 have e2:∀d,(g d).cell? ⟨b11,o11,none⟩=some (.string ⟨#[111,110,101,32,91,50,54,93,32,91,51,54,93,32,102,111,117,114]⟩):=fun d=>(HMC.out (g d) (HBx.out.trans ((hg d).mono HBx.out.size))).1.2.2
 have HPD:Hid (∀d,Below w3.heap.size w3 (g d)):=Lh fun d=>HB11.out.trans ((hg d).mono HB11.out.size)
 have p0:∀d,(g d).cell? ⟨bp,op,none⟩=some (.int .i64 1):=fun d=>(HPC.out (g d) (HPD.out d)).1
 have p1:∀d,(g d).cell? ⟨bp,op+1,none⟩=some (.int .i64 0):=fun d=>(HPC.out (g d) (HPD.out d)).2.1
 have p2:∀d,(g d).cell? ⟨bp,op+2,none⟩=some (.int .i64 5):=fun d=>(HPC.out (g d) (HPD.out d)).2.2.1
 have p3:∀d,(g d).cell? ⟨bp,op+3,none⟩=some (.int .i64 7):=fun d=>(HPC.out (g d) (HPD.out d)).2.2.2.1
 have p4:∀d,(g d).cell? ⟨bp,op+4,none⟩=some (.slice (some ⟨bl,ol,none⟩) 1 c1):=fun d=>(HPC.out (g d) (HPD.out d)).2.2.2.2.1
 have p5:∀d,(g d).cell? ⟨bp,op+5,none⟩=some (.slice A4 0 c4):=fun d=>(HPC.out (g d) (HPD.out d)).2.2.2.2.2.1
 have l0:∀d,(g d).cell? ⟨bl,ol,none⟩=some (.int .i64 0):=fun d=>(HPC.out (g d) (HPD.out d)).2.2.2.2.2.2.1
 have l1:∀d,(g d).cell? ⟨bl,ol+1,none⟩=some (.int .i64 4):=fun d=>(HPC.out (g d) (HPD.out d)).2.2.2.2.2.2.2.1
 have l2:∀d,(g d).cell? ⟨bl,ol+2,none⟩=some (.slice Ag 3 cg):=fun d=>(HPC.out (g d) (HPD.out d)).2.2.2.2.2.2.2.2.1
 have l3:∀d,(g d).cell? ⟨bl,ol+3,none⟩=some (.slice An 0 cn):=fun d=>(HPC.out (g d) (HPD.out d)).2.2.2.2.2.2.2.2.2
 have t0:∀d,(g d).cell? ⟨b0+1+1,0,none⟩=some (.slice (some ⟨b0+1,0,none⟩) 1 1):=fun d=>(HI11.out.to (hg d)).tx.cell 0 rfl
 have t1:∀d,(g d).cell? ⟨b0+1+1,1,none⟩=some (.slice none 0 0):=fun d=>(HI11.out.to (hg d)).tx.cell 1 rfl
 (repeat(refine Qaf (by rfl) fun Kq hq=>?_;go_big_quiet_step (fail);refine wpQuiet_nil (hq _ ?_);clear hq Kq));refine Qal (by rfl) (by rfl) (fun d hG K Q hK=>?_) (fun v d hG hp Kr hr=>?_)
 ·go_simp;go_at_call 24;refine(HLN.out (g d) (HPD.out d) (HI11.out.to (hg d))).mono ?_;rintro e W1 ⟨rfl,hb1⟩;go_simp;exact hK _ _ hb1 (rfl)
 have hp:v=.string ⟨#[111,110,101,32,116,119,111,32,91,51,54,93,32,102,111,117,114]⟩:=hp;subst hp;(try clear hp);clear hG;go_frame;refine hr _ ?_;clear hr Kr;(repeat(refine Qaf (by rfl) fun Kq hq=>?_;go_big_quiet_step (fail);refine wpQuiet_nil (hq _ ?_);clear hq Kq));refine wpR_end (by kernel_rfl) (fun d hG=>?_) _;have HBd:=Lh (hg d);clear hG hg hgm;unfold Exit.then;go_wp2_with fail;go_ret;exact⟨rfl,HI11.out.b.trans (HBd.out.mono HI11.out.b.size)⟩
def TxtQ (P:Nat→Prop)(o:Option TextP)(e:Ending)(W':World):Prop:=∃Aa ca Ab cb,e=.returned (.tuple #[.agg #[.slice Aa (o.getD ⟨[],[]⟩).a.length ca,.slice Ab (o.getD ⟨[],[]⟩).b.length cb],.bool o.isSome])∧Sl W' P Aa ca (o.getD ⟨[],[]⟩).a∧Sl W' P Ab cb (o.getD ⟨[],[]⟩).b
theorem TxtQ.no {P:Nat→Prop}{o:Option TextP}(W':World)(h:o=none):TxtQ P o (.returned (.tuple #[.agg #[.slice none 0 0,.slice none 0 0],.bool false])) W':=by
 subst h;exact⟨none,0,none,0,rfl,Sl.nil _ _ _ _ (Nat.zero_le _),Sl.nil _ _ _ _ (Nat.zero_le _)⟩
theorem TxtQ.yes {P:Nat→Prop}{o:Option TextP}{z:TextP}{W':World}{Aa Ab:Option Addr}{ca cb:Nat}(h:o=some z)(h1:Sl W' P Aa ca z.a)(h2:Sl W' P Ab cb z.b):TxtQ P o (.returned (.tuple #[.agg #[.slice Aa z.a.length ca,.slice Ab z.b.length cb],.bool true])) W':=by
 subst h;exact⟨Aa,ca,Ab,cb,rfl,h1,h2⟩
set_option maxRecDepth 100000 in
theorem rtextAtQ_any {m h:Int}{A:Option Addr}{c:Nat}{l:List SectP}{w:World}(P:Nat→Prop)(hs:Sl w P A c l)(hsh:Qba l)(heq:∀s∈l,s.texts.length=s.vers.length)(entry ver:Int):
 Calls Tryz.prog 18 #[.agg #[.int .i64 m,.int .i64 h,.slice A l.length c],.int .i64 entry,.int .i64 ver] w fun e W'=>TxtQ P (QcQ l entry ver) e W'∧Below w.heap.size w W':=by
 obtain⟨wb,hwb⟩:∃wb,(w.alloc (.cells #[.int .i64 m,.int .i64 h,.slice A l.length c] 25)).alloc (.cells #[.slice none 0 0,.slice none 0 0] 36)=wb:=⟨_,rfl⟩;have hba:Below w.heap.size w wb:=by rw[←hwb];exact(bR.alloc nL _).alloc (by simp) _
 have hx0:ABox wb w.heap.size 25 [.int .i64 m,.int .i64 h,.slice A l.length c]:=by rw[←hwb];exact(Below.heap_alloc _ _ _ (by simp)).trans (heap_alloc_new w _)
 have hx1:ABox wb (w.heap.size+1) 36 [.slice none 0 0,.slice none 0 0]:=by rw[←hwb];exact Qan (by simp)
 have HF:=Lh (rfind_any A c l m h entry wb ((hs.mono (S':=fun b=>b<w.heap.size) fun _ _ hl=>hl).to hba) (by have:=hsh.1;omega));have hsz:wb.heap.size=w.heap.size+2:=by rw[←hwb];simp
 have HZ:=Lh hsz;have HB:=Lh hba;have HX0:=Lh hx0;have HX1:=Lh hx1;have HS:=Lh hs;have HQ:=Lh heq;have HSH:=Lh hsh;have hlc:l.length≤c:=hs.1;have x0:=hx0.cell 0 rfl;have x1:=hx0.cell 1 rfl;have x2:=hx0.cell 2 rfl;clear hba hx0 hx1 hsz hs heq hsh;go_enter Tryz.func18,Tryz.ntmps18;go_upto_region 1 with(fail);(try rw[hwb]);clear hwb
 go_upto_region 2 with(first|(go_at_call 57;refine HF.out.mono ?_;rintro e w1 ⟨rfl,hb1⟩;have HB1:=Lh hb1;clear hb1 x0 x1 x2)|fail)
 have HX1w:=Lh (HX1.out.to HB1.out);have HX0w:=Lh (HX0.out.to HB1.out);have HBA:Hid (Below w.heap.size w w1):=Lh (HB.out.trans (HB1.out.mono HB.out.size));have HZ1:Hid (w.heap.size+2≤w1.heap.size):=Lh (by have:=HB1.out.size;have:=HZ.out;omega);clear HF HB1 HX1 HX0 HB;rcases Qbz l entry with hf|⟨k,hk,hf,hfe⟩
 ·have HN:=Lh (QcK (v:=ver) hf);rw[hf];have z0:=HX1w.out.cell 0 rfl;have f0:=HX1w.out.fz 0;have z1:=(HX1w.out.set 0 (.slice none 0 0)).cell 1 rfl;have f1:=(HX1w.out.set 0 (.slice none 0 0)).fz 1;clear hf;go_wp2_with fail
  exact bodyPost_ret (v:=.tuple #[.agg #[.slice none 0 0,.slice none 0 0],.bool false]) (Qah Tryz.results18 _ _ (w.heap.size+1) _ #[.slice none 0 0,.slice none 0 0] (0,0) _ rfl (abox2 HX1w.out _ _) Tryz.underlying36 rfl (by kernel_rfl)) rfl ⟨TxtQ.no _ HN.out,QbK HBA.out (by omega) _ _⟩
 ·obtain⟨b,o,Ag,cg,An,cn,rfl,-,hbl,e0,e1,e2,e3,hg1,hn1,-⟩:=Qb9 HS.out hk;have hqe:=HQ.out _ (List.getElem_mem hk);have hshx:=HSH.out.2 _ (List.getElem_mem hk);obtain⟨x,hx⟩:∃x,l[k]=x:=⟨_,rfl⟩;rw[hx] at e0 e1 e2 e3 hg1 hn1 hqe hshx;have HNO:Hid (QdA x.vers ver= -1→QcQ l entry ver=none):=Lh (fun h1=>QcE hf hk hx (by omega) h1);have HYES:Hid (∀j (hj:j<x.texts.length),QdA x.vers ver=(j:Int)→QcQ l entry ver=some x.texts[j]):=Lh (fun j hj h1=>Qc6 hf hk hx hj h1);have k0:=(HBA.out.cell (p:=⟨b,o+k*4,none⟩) hbl).trans e0;have k1:=(HBA.out.cell (p:=⟨b,o+k*4+1,none⟩) hbl).trans e1;have k2:=(HBA.out.cell (p:=⟨b,o+k*4+2,none⟩) hbl).trans e2;have k3:=(HBA.out.cell (p:=⟨b,o+k*4+3,none⟩) hbl).trans e3;have x2:=HX0w.out.cell 2 rfl;have HG1:=Lh hg1;have HN1:=Lh hn1;have HV:Hid (x.texts.length=x.vers.length∧x.vers.length≤1048576):=Lh ⟨hqe,hshx.1⟩;obtain⟨nv,hnv⟩:∃nv,x.vers.length=nv:=⟨_,rfl⟩;obtain⟨nt,hnt⟩:∃nt,x.texts.length=nt:=⟨_,rfl⟩;have HNV:=Lh hnv;have HNT:=Lh hnt;have hgc:nv≤cg:=(by rw[←hnv];exact hg1.1);have hnc:nt≤cn:=(by rw[←hnt];exact hn1.1);have hn9:nv≤1048576:=(by rw[←hnv];exact hshx.1);have HTV:Hid (nt=nv):=Lh (by rw[←hnv,←hnt];exact hqe);rw[hnv] at k2;rw[hnt] at k3;rw[hf];have hkI:¬(k:Int)<0:=(by omega);have hkL:(k:Int)<(l.length:Int):=(by omega);clear hf hfe e0 e1 e2 e3 hg1 hn1 hqe hshx hx hnv hnt;obtain⟨O,hO⟩:∃O,w1.heap.size=O:=⟨_,rfl⟩;obtain⟨ws,hws⟩:∃ws,w1.alloc (.cells #[.int .i64 x.entry,.bool x.frozen,.slice Ag nv cg,.slice An nt cn] 74)=ws:=⟨_,rfl⟩;have hbs:Below w1.heap.size w1 ws:=(by rw[←hws];exact bR.alloc nL _);have hxs:ABox ws O 74 [.int .i64 x.entry,.bool x.frozen,.slice Ag nv cg,.slice An nt cn]:=(by rw[←hws,←hO];exact heap_alloc_new w1 _);have HXS:=Lh hxs;have HX1s:=Lh (HX1w.out.to hbs);have HBs:Hid (Below w.heap.size w ws):=Lh (HBA.out.trans (hbs.mono HBA.out.size));go_upto_region 5 with(fail);(try rw[hO]);(try rw[hws]);clear hO hws hbs hxs k0 k1 k2 k3 x2;go_wp2_with fail;go_loopw [10] (fun i wr=>∃q:Nat,q≤nv∧i=.int .i64 q∧Hid (∀i (hi:i<x.vers.length),i<q→x.vers[i]≠ver)∧wr=ws) (fun i _=>nv-(intOf i).toNat);(case atStart=>exact⟨0,Nat.zero_le _,rfl,Lh (fun i hi h=>absurd h (Nat.not_lt_zero _)),rfl⟩);case round=>
   obtain⟨q,hq,rfl,HN,rfl⟩:=hrel;obtain⟨ws,rfl⟩:∃ws:World,ws=wr:=⟨_,rfl⟩;have s2:=HXS.out.cell 2 rfl;have s3:=HXS.out.cell 3 rfl;by_cases hlt:q<nv
   ·have hql:q<x.vers.length:=by rw[HNV.out];exact hlt
    have hqt:q<x.texts.length:=(by rw[HNT.out,HTV.out];exact hlt);obtain⟨bv,ov,rfl,-,-,-,ev⟩:=Qbs (HG1.out.keep (Kept.all HBs.out) HBs.out.size) hql;obtain⟨y,hy⟩:∃y,x.vers[q]=y:=⟨_,rfl⟩;rw[hy] at ev;have HY:=Lh hy;have hqI:(q:Int)<(nv:Int):=(by omega);have hqT:(q:Int)<(nt:Int):=(by rw[HTV.out];exact hqI);clear hy;by_cases hyv:y=ver
    ·have hyes:=HYES.out q hqt (idxP_hit hql (by rw[HY.out];exact hyv) (fun i hi=>HN.out i (by omega) hi));obtain⟨bt,ot,Aa,ca,Ab,cb,rfl,-,hbt,t0',t1',ht1,ht2⟩:=Qdq HN1.out hqt;obtain⟨z,hz⟩:∃z,x.texts[q]=z:=⟨_,rfl⟩;rw[hz] at t0' t1' ht1 ht2 hyes;have t0:=(HBs.out.cell (p:=⟨bt,ot+q*2,none⟩) hbt).trans t0';have t1:=(HBs.out.cell (p:=⟨bt,ot+q*2+1,none⟩) hbt).trans t1';have HBF:=Lh (QbK HBs.out (b:=w.heap.size+1) (by omega) (.slice Aa z.a.length ca) (.slice Ab z.b.length cb));have HYE:=Lh hyes;have HT1:=Lh ht1;have HT2:=Lh ht2;have z0:=HX1s.out.cell 0 rfl;have f0:=HX1s.out.fz 0;have z1:=(HX1s.out.set 0 (.slice Aa z.a.length ca)).cell 1 rfl;have f1:=(HX1s.out.set 0 (.slice Aa z.a.length ca)).fz 1;clear hz hyes ht1 ht2 t0' t1' hbt;go_wp2_with fail
     refine bodyPost_ret (v:=.tuple #[.agg #[.slice Aa z.a.length ca,.slice Ab z.b.length cb],.bool true]) (Qah Tryz.results18 _ _ (w.heap.size+1) _ #[.slice Aa z.a.length ca,.slice Ab z.b.length cb] (0,0) _ rfl (abox2 HX1s.out _ _) Tryz.underlying36 rfl (by kernel_rfl)) rfl ⟨TxtQ.yes HYE.out (HT1.out.keep (Kept.all HBF.out) HBF.out.size) (HT2.out.keep (Kept.all HBF.out) HBF.out.size),HBF.out⟩
    ·have HN2:Hid (∀i (hi:i<x.vers.length),i<q+1→x.vers[i]≠ver):=Lh (fun i hi h=>by
      by_cases hik:i=q
      ·subst hik;rw[HY.out];exact hyv
      ·exact HN.out i hi (by omega))
     go_wp2_with fail;go_roundw;(case rel=>exact⟨q+1,by omega,by go_num,HN2,trivial⟩);case measure=>simp[intOf];omega
   ·have HNN:Hid (QcQ l entry ver=none):=Lh (HNO.out (Qci fun i hi=>HN.out i hi (by have:=HNV.out;omega)));obtain rfl:q=nv:=by omega
    have z0:=HX1s.out.cell 0 rfl;have f0:=HX1s.out.fz 0;have z1:=(HX1s.out.set 0 (.slice none 0 0)).cell 1 rfl;have f1:=(HX1s.out.set 0 (.slice none 0 0)).fz 1;have hqI:¬(q:Int)<(q:Int):=(by omega);go_wp2_with fail
    exact bodyPost_ret (v:=.tuple #[.agg #[.slice none 0 0,.slice none 0 0],.bool false]) (Qah Tryz.results18 _ _ (w.heap.size+1) _ #[.slice none 0 0,.slice none 0 0] (0,0) _ rfl (abox2 HX1s.out _ _) Tryz.underlying36 rfl (by kernel_rfl)) rfl ⟨TxtQ.no _ HNN.out,QbK HBs.out (by omega) _ _⟩
set_option maxRecDepth 100000 in
theorem textAtQ_any {m h:Int}{A:Option Addr}{c:Nat}{l:List SectP}{w:World}(hs:Sl w (fun b=>b<w.heap.size) A c l)(hsh:Qba l)(heq:∀s∈l,s.texts.length=s.vers.length)(entry ver:Int):
 Calls Tryz.prog 27 #[.agg #[.int .i64 m,.int .i64 h,.slice A l.length c],.int .i64 entry,.int .i64 ver] w fun e W'=>TxtQ (Up w.heap.size) (QcQ l entry ver) e W'∧Below w.heap.size w W':=by
 obtain⟨wb,hwb⟩:∃wb,(w.alloc (.cells #[.int .i64 m,.int .i64 h,.slice A l.length c] 25)).alloc (.cells #[.slice none 0 0,.slice none 0 0] 36)=wb:=⟨_,rfl⟩;have hba:Below w.heap.size w wb:=by rw[←hwb];exact(bR.alloc nL _).alloc (by simp) _
 have hx0:ABox wb w.heap.size 25 [.int .i64 m,.int .i64 h,.slice A l.length c]:=by rw[←hwb];exact(Below.heap_alloc _ _ _ (by simp)).trans (heap_alloc_new w _)
 have hx1:ABox wb (w.heap.size+1) 36 [.slice none 0 0,.slice none 0 0]:=by rw[←hwb];exact Qan (by simp)
 have HF:=Lh (find_any A c l m h entry wb (hs.to hba) (by have:=hsh.1;omega));have hsz:wb.heap.size=w.heap.size+2:=by rw[←hwb];simp
 have HZ:=Lh hsz;have HB:=Lh hba;have HX0:=Lh hx0;have HX1:=Lh hx1;have HS:=Lh hs;have HQ:=Lh heq;have HSH:=Lh hsh;have hlc:l.length≤c:=hs.1;have x0:=hx0.cell 0 rfl;have x1:=hx0.cell 1 rfl;have x2:=hx0.cell 2 rfl;clear hba hx0 hx1 hsz hs heq hsh;go_enter Tryz.func27,Tryz.ntmps27;go_upto_region 1 with(fail);(try rw[hwb]);clear hwb
 go_upto_region 2 with(first|(go_at_call 69;refine HF.out.mono ?_;rintro e w1 ⟨rfl,hb1⟩;have HB1:=Lh hb1;clear hb1 x0 x1 x2)|fail)
 have HX1w:=Lh (HX1.out.to HB1.out);have HX0w:=Lh (HX0.out.to HB1.out);have HBA:Hid (Below w.heap.size w w1):=Lh (HB.out.trans (HB1.out.mono HB.out.size));have HZ1:Hid (w.heap.size+2≤w1.heap.size):=Lh (by have:=HB1.out.size;have:=HZ.out;omega);clear HF HB1 HX1 HX0 HB;rcases Qbz l entry with hf|⟨k,hk,hf,hfe⟩
 ·have HN:=Lh (QcK (v:=ver) hf);rw[hf];have z0:=HX1w.out.cell 0 rfl;have f0:=HX1w.out.fz 0;have z1:=(HX1w.out.set 0 (.slice none 0 0)).cell 1 rfl;have f1:=(HX1w.out.set 0 (.slice none 0 0)).fz 1;clear hf;go_wp2_with fail
  exact bodyPost_ret (v:=.tuple #[.agg #[.slice none 0 0,.slice none 0 0],.bool false]) (Qah Tryz.results27 _ _ (w.heap.size+1) _ #[.slice none 0 0,.slice none 0 0] (0,0) _ rfl (abox2 HX1w.out _ _) Tryz.underlying36 rfl (by kernel_rfl)) rfl ⟨TxtQ.no _ HN.out,QbK HBA.out (by omega) _ _⟩
 ·obtain⟨b,o,Ag,cg,An,cn,rfl,-,hbl,e0,e1,e2,e3,hg1,hn1,-⟩:=Qb9 HS.out hk;have hqe:=HQ.out _ (List.getElem_mem hk);have hshx:=HSH.out.2 _ (List.getElem_mem hk);obtain⟨x,hx⟩:∃x,l[k]=x:=⟨_,rfl⟩;rw[hx] at e0 e1 e2 e3 hg1 hn1 hqe hshx;have HNO:Hid (QdA x.vers ver= -1→QcQ l entry ver=none):=Lh (fun h1=>QcE hf hk hx (by omega) h1);have HYES:Hid (∀j (hj:j<x.texts.length),QdA x.vers ver=(j:Int)→QcQ l entry ver=some x.texts[j]):=Lh (fun j hj h1=>Qc6 hf hk hx hj h1);have k2:=(HBA.out.cell (p:=⟨b,o+k*4+2,none⟩) hbl).trans e2;have k3:=(HBA.out.cell (p:=⟨b,o+k*4+3,none⟩) hbl).trans e3;have x2:=HX0w.out.cell 2 rfl;have HIX:=Lh (indexI_any Ag cg x.vers ver w1 (hg1.to HBA.out) (by have:=hshx.1;omega));have HN1:=Lh hn1;have HSX:=Lh hshx;have HV:Hid (x.texts.length=x.vers.length∧x.vers.length≤1048576):=Lh ⟨hqe,hshx.1⟩;have hnc:x.texts.length≤cn:=hn1.1;rw[hf];have hkI:¬(k:Int)<0:=(by omega);have hkL:(k:Int)<(l.length:Int):=(by omega);clear hf hfe e0 e1 e2 e3 hg1 hn1 hqe hshx hx
  go_upto_region 5 with(first|(go_at_call 70;refine HIX.out.mono ?_;rintro e w2 ⟨rfl,rfl⟩)|fail)
  by_cases hin:ver∈x.vers
  ·have hj:x.vers.findIdx (fun x=>decide (x=ver))<x.vers.length:=List.findIdx_lt_length_of_exists ⟨ver,hin,by simp⟩;have hix:QdA x.vers ver=(x.vers.findIdx (fun x=>decide (x=ver)):Int):=(by unfold QdA;rw[if_pos hj]);obtain⟨j,hje⟩:∃j,x.vers.findIdx (fun x=>decide (x=ver))=j:=⟨_,rfl⟩;rw[hje] at hj hix;have hqt:j<x.texts.length:=(by rw[HV.out.1];exact hj);have hyes:=HYES.out j hqt hix;rw[hix];obtain⟨bt,ot,Aa,ca,Ab,cb,rfl,-,hbt,t0',t1',ht1,ht2⟩:=Qdq HN1.out hqt;have hsx:=HSX.out.2.2 _ (List.getElem_mem hqt);obtain⟨z,hz⟩:∃z,x.texts[j]=z:=⟨_,rfl⟩;rw[hz] at t0' t1' ht1 ht2 hyes hsx;have t0:=(HBA.out.cell (p:=⟨bt,ot+j*2,none⟩) hbt).trans t0';have t1:=(HBA.out.cell (p:=⟨bt,ot+j*2+1,none⟩) hbt).trans t1';have HYE:=Lh hyes;have HBT:=Lh (Qcj Aa Ab ca cb z.a z.b _ (ht1.to HBA.out) (ht2.to HBA.out) hsx.1 hsx.2);have hjI:¬(j:Int)<0:=(by omega);have hjT:(j:Int)<(x.texts.length:Int):=(by omega);clear hz hyes ht1 ht2 t0' t1' hbt hix hje hj hin hsx
   go_wp2_with (first
    |(go_at_call 71;refine HBT.out.mono ?_;rintro e w3 ⟨va,vb,rfl,hr,hb3⟩;obtain⟨Ag1,Ag2,hvv,⟨A5,c5,e5,hs5,-⟩,⟨A6,c6,e6,hs6,-⟩⟩:=hr;cases hvv;cases e5;cases e6;have HS5:=Lh hs5;have HS6:=Lh hs6;have HB3:=Lh hb3;clear hs5 hs6 hb3 k2 k3 x2 t0 t1;have z0:=(HX1w.out.to HB3.out).cell 0 rfl;have f0:=(HX1w.out.to HB3.out).fz 0;have z1:=((HX1w.out.to HB3.out).set 0 (.slice A5 z.a.length c5)).cell 1 rfl;have f1:=((HX1w.out.to HB3.out).set 0 (.slice A5 z.a.length c5)).fz 1)
    |fail)
   have HBF:=Lh (QbK (HBA.out.trans (HB3.out.mono HBA.out.size)) (b:=w.heap.size+1) (by omega) (.slice A5 z.a.length c5) (.slice A6 z.b.length c6))
   have hkp:∀i,Up w1.heap.size i→((w3.setCell ⟨w.heap.size+1,0,none⟩ (.slice A5 z.a.length c5)).setCell ⟨w.heap.size+1,1,none⟩ (.slice A6 z.b.length c6)).heap[i]? =w3.heap[i]? :=fun i (hi:w1.heap.size≤i)=>by
    have:=HZ1.out;exact(Qaa _ _ _ _ (by omega)).trans (Qaa _ _ _ _ (by omega))
   refine bodyPost_ret (v:=.tuple #[.agg #[.slice A5 z.a.length c5,.slice A6 z.b.length c6],.bool true]) (Qah Tryz.results27 _ _ (w.heap.size+1) _ #[.slice A5 z.a.length c5,.slice A6 z.b.length c6] (0,0) _ rfl (abox2 (HX1w.out.to HB3.out) _ _) Tryz.underlying36 rfl (by kernel_rfl)) rfl ⟨TxtQ.yes HYE.out ((HS5.out.keep (fun i hi _=>hkp i hi) (by simp)).mono fun i (hi:w1.heap.size≤i) _=>by show w.heap.size≤i;have:=HZ1.out;omega) ((HS6.out.keep (fun i hi _=>hkp i hi) (by simp)).mono fun i (hi:w1.heap.size≤i) _=>by show w.heap.size≤i;have:=HZ1.out;omega),HBF.out⟩
  ·have hix:QdA x.vers ver= -1:=Qci fun i hi e=>hin (by rw[←e];exact List.getElem_mem hi)
   have HNN:Hid (QcQ l entry ver=none):=Lh (HNO.out hix);rw[hix];have z0:=HX1w.out.cell 0 rfl;have f0:=HX1w.out.fz 0;have z1:=(HX1w.out.set 0 (.slice none 0 0)).cell 1 rfl;have f1:=(HX1w.out.set 0 (.slice none 0 0)).fz 1;clear hix hin k2 k3 x2;go_wp2_with fail
   exact bodyPost_ret (v:=.tuple #[.agg #[.slice none 0 0,.slice none 0 0],.bool false]) (Qah Tryz.results27 _ _ (w.heap.size+1) _ #[.slice none 0 0,.slice none 0 0] (0,0) _ rfl (abox2 HX1w.out _ _) Tryz.underlying36 rfl (by kernel_rfl)) rfl ⟨TxtQ.no _ HNN.out,QbK HBA.out (by omega) _ _⟩
theorem may_zero (x:Int):may 0 x=true:=by
 unfold may;simp
theorem seeB_nil (gs e v x:Int):seeB [] gs e v x=true:=may_zero gs
theorem and_all (G:Nat)(h:G<65536):G &&& 65535=G:=by
 have:=Nat.and_two_pow_sub_one_eq_mod G 16;rw[show 2^16-1=65535 from rfl,show 2^16=65536 from rfl,Nat.mod_eq_of_lt h] at this;exact this
theorem may_all (G:Nat)(h:G<65536):may G 65535=true:=by
 unfold may;rw[decide_eq_true_eq];apply BitVec.eq_of_toNat_eq;rw[BitVec.toNat_and,BitVec.toNat_ofNat,Nat.mod_eq_of_lt (by omega),show(BitVec.ofInt 64 65535).toNat=65535 from by decide];exact and_all G h
theorem seeB_all {sl:List Seal}(hg:∀s∈sl,0≤s.g∧s.g<16)(e v x:Int):seeB sl 65535 e v x=true:=
 may_all _ (gset_lt _ fun s hs=>(hg s (List.mem_filter.1 hs).1).2)
def QaE (ws:List Word)(f j:Nat):List ByteArray:=(List.range (j-f)).map fun(i:Nat)=>(ws.getD (f+i) noW).s
theorem plainTo_succ {ws:List Word}{f j:Nat}(h:f≤j)(hj:j<ws.length):QaE ws f (j+1)=QaE ws f j++[ws[j].s]:=by
 unfold QaE;rw[show j+1-f=(j-f)+1 by omega,List.range_succ,List.map_append];congr 1;simp only[List.map_cons,List.map_nil];rw[show f+(j-f)=j by omega,List.getD_eq_getElem?_getD,qG hj];rfl
theorem plainTo_self (ws:List Word)(f:Nat):QaE ws f f=[]:=by unfold QaE;rw[Nat.sub_self];rfl
theorem Qdf (ws:List Word)(f j:Nat):(QaE ws f j).length=j-f:=by unfold QaE;simp
theorem plainTo_size {ws:List Word}(hws:∀y∈ws,y.s.size≤1000){f j:Nat}:∀z∈QaE ws f j,z.size≤1000:=by
 unfold QaE;intro z hz;obtain⟨i,-,rfl⟩:=List.mem_map.1 hz;rw[List.getD_eq_getElem?_getD];cases hq:ws[f+i]? with
 |none=>exact Nat.zero_le _
 |some y=>exact hws y (List.mem_of_getElem? hq)
theorem lineTo_see {sl:List Seal}{gs e v:Int}(h:∀x,seeB sl gs e v x=true)(ws:List Word)(f j:Nat):Qay sl gs e v ws f j=QaE ws f j:=by
 unfold Qay QaE QdM;refine List.map_congr_left fun i _=>?_
 rw[if_pos (h _)]
theorem joinS_next {l:List ByteArray}{x:ByteArray}{n:Nat}(hn:l.length=n):QaX (l++[x])=if 0<n then QaX l++⟨#[32]⟩++x else x:=by
 split
 ·exact joinS_snoc l (by intro e;rw[e] at hn;simp at hn;omega) x
 ·have:l=[]:=List.eq_nil_of_length_eq_zero (by omega);subst this;rw[List.nil_append,joinS_one]
theorem tellB_nil (gs e v x:Int):tellB [] gs e v x=false:=rfl
theorem Qdz:∀(n:Nat),Qbt (List.replicate n none)=([],false)
 |0=>rfl
 |n+1=>by rw[List.replicate_succ',QcH,Qdz n]
theorem marksL_nil (gs br:Int)(p:PageP)(ws:List Word)(x:LineP)(i:Nat):marksL [] gs br p ws x i=[]:=by
 unfold marksL QcT
 have:∀n,Qc7 [] gs p.entry p.ver ws x n=List.replicate n none:=fun n=>by
  unfold Qc7;rw[List.eq_replicate_iff];refine⟨by simp,fun o ho=>?_⟩;obtain⟨j,-,rfl⟩:=List.mem_map.1 ho;unfold optW;rw[if_neg (by rw[tellB_nil];decide)]
 rw[this,Qdz];rfl
theorem marksF_nil (gs br:Int)(p:PageP)(ws:List Word):∀(l:List LineP) (i:Nat),QaH [] gs br p ws i l=[]
 |[],_=>rfl
 |x::l,i=>by rw[QaH,marksL_nil,marksF_nil gs br p ws l (i+1)];rfl
theorem annexP_nil (m h:Int)(l:List SectP)(gs br:Int):QbL m h l [] gs br=[]:=by
 unfold QbL QaY;rw[List.flatMap_eq_nil_iff];intro p _;exact marksF_nil gs br p _ _ 0


def SP.full {α:Type}[Rep α](B:Nat)(e:TypeId)(l:List α):SP:=⟨fun v w=>(∃A,v=.slice A l.length l.length)∧Own w B e v l,fun _ _ _ h hb=>⟨h.1,h.2.below hb⟩⟩
section
variable {P:Program} {α:Type} [Rep α]
theorem own_sl2 {w:World}{base n c:Nat}{e:TypeId}{A:Option Addr}{l:List α}(h:Own w base e (.slice A n c) l):n=l.length∧Sl w (fun b=>b<w.heap.size) A c l:=by
 obtain⟨A',c',e',hs⟩:=h.sl;cases e';exact⟨rfl,hs⟩
theorem run_none (w:World)(base:Nat)(t ty e:TypeId)(z:Value)(bytes:Nat)(ht:P.underlying t=some (.slice e))(hinfo:(P.info? e).map (fun i=>(i.zero,i.size,i.bytes))=some (some z,Rep.size α,bytes)) (v:Value) (l:List α) (hown:Own w base e v l) (A:Option Addr) (c:Nat):(Builtin.append_ #[t,t] ty #[v,.slice A 0 c]).run P w=.ok v w:=by
 obtain⟨i,hi,hz,hz1,hz2⟩:=info_parts hinfo;obtain⟨xs,hx1,ho1,hr1⟩:=id hown;rcases A with _|a
 ·rcases hx1.2 with⟨rfl,r2⟩|⟨g,cap,cur,rfl,_,_,hnc,_⟩
  ·simp[Builtin.append_,run_underlying ht,sizeOf,typeInfo,hi,Builtin.lenOf,Builtin.firstCells]
  ·simp[Builtin.append_,run_underlying ht,sizeOf,typeInfo,hi,Builtin.lenOf,Builtin.firstCells,hnc,storeCells]
 ·rcases hx1.2 with⟨rfl,r2⟩|⟨g,cap,cur,rfl,_,_,hnc,_⟩
  ·simp[Builtin.append_,run_underlying ht,sizeOf,typeInfo,hi,Builtin.lenOf,Builtin.firstCells,loadCells,loadCellsFrom]
  ·simp[Builtin.append_,run_underlying ht,sizeOf,typeInfo,hi,Builtin.lenOf,Builtin.firstCells,hnc,storeCells,loadCells,loadCellsFrom]
theorem wp_catF {o:Oper}{a:Act}{K:Act→World→Prop}{Q:Exit→Act→World→Prop}{w:World}(s x:Operand)(t:TypeId) (ho:o.op=.call {callee:=.builtin .append,args:=#[s,x],argTypes:=#[t,t]}) (base:Nat) (e:TypeId) (z:Value) (bytes:Nat) (ht:P.underlying t=some (.slice e)) (hinfo:(P.info? e).map (fun i=>(i.zero,i.size,i.bytes))=some (some z,Rep.size α,bytes)) (hzs:z.cells.size=Rep.size α) (hsz:0<Rep.size α) (A:Option Addr) (n:Nat) (l:List α) (hs:a.eval s=.slice A n n) (hown:Own w base e (.slice A n n) l) (A':Option Addr) (c m:Nat) (l':List α) (hx:a.eval x=.slice A' m c) (hm:l'.length=m) (hl':Sl w (fun b=>b<w.heap.size) A' c l') (hbytes:(n+m)*bytes≤140737488355328) (hml:n+m≤9223372036854775807) (hbase:base≤w.heap.size) (h:∀v' w',Own w' base e v' (l++l')→Below w.heap.size w w'→K (a.put o.dst v') w'):o.wp P a w K Q:=by
 obtain⟨hn,hl⟩:=own_sl2 hown;by_cases h0:0<m
 ·exact wp_fresh s x t ho e z bytes ht hinfo hzs hsz A n l hs hn.symm hl A' c m l' hx hm hl' h0 hbytes hml fun v' w' h2 h3=>h v' w' (h2.re hbase) h3
 ·obtain rfl:m=0:=by omega
  obtain rfl:l'=[]:=List.eq_nil_of_length_eq_zero hm;have hrun:=run_none (P:=P) w base t o.type e z bytes ht hinfo _ l hown A' c;unfold Oper.wp execOp;simp only[ho,resolve,invoke,builtin,Sem.run_bind,Sem.run_pure,Result.andThen_ok,List.map_toArray,List.map_cons,List.map_nil,hs,hx,hrun];exact h _ _ (by rw[List.append_nil];exact hown) bR
end
set_option maxRecDepth 100000 in
theorem viewopens_any (A0:Option Addr)(c0:Nat)(l0:List Int)(A1:Option Addr)(c1:Nat)(l1:List Int)(W1:World)(hs0:Sl W1 (fun b=>b<W1.heap.size) A0 c0 l0)(hs1:Sl W1 (fun b=>b<W1.heap.size) A1 c1 l1)(hT:Tabs W1):
 Calls Tryz.prog 7 #[.slice A0 l0.length c0,.slice A1 l1.length c1] W1 fun e w'=>e=.returned (.bool true)∧Below W1.heap.size W1 w':=by
 have HT:=Lh hT;have HMD:=Lh (lmade_any A0 c0 l0 A1 c1 l1 (0) W1 hs0 hs1 ⟨by decide,by decide⟩);obtain⟨gs,hgs⟩:∃q,grpI (0)=q:=⟨_,rfl⟩;have HGS:=Lh hgs;rw[hgs] at HMD;clear hT hs0 hs1 hgs;go_enter Tryz.func7,Tryz.ntmps7
 go_upto_region 2 with(first|(go_at_call 13;refine HMD.out.mono ?_;rintro e V1 ⟨m,h,Ak,ck,ss,As,cs,sl,rfl,hg,hs,hsl,hn6,hok,hb⟩;have HG:=Lh hg;have HV1:=Lh hb;have HSS:=Lh hs;have HSL:=Lh hsl;have HN6:=Lh hn6;have HOK:=Lh hok;clear hg hs hsl hn6 hok hb)|fail)
 obtain⟨W2,hW⟩:∃W2,V1.alloc (.cells #[.int .i64 m,.int .i64 h,.slice Ak ss.length ck] 25)=W2:=⟨_,rfl⟩;obtain⟨b1,hbk⟩:∃b1,V1.heap.size=b1:=⟨_,rfl⟩;rw[hW,hbk];have hb2:Below V1.heap.size V1 W2:=by rw[←hW];exact bR.alloc nL _
 have HX:=Lh (show ABox W2 b1 25 [.int .i64 m,.int .i64 h,.slice Ak ss.length ck] by rw[←hW,←hbk];exact heap_alloc_new V1 _);have HB:Hid (Below W1.heap.size W1 W2):=Lh (HV1.out.trans (hb2.mono HV1.out.size));have HS2:Hid (Sl W2 (fun b=>b<W2.heap.size) Ak ck ss):=Lh ((HSS.out.mono fun i hi _=>hi.2).to hb2);have HSL2:Hid (Sl W2 (fun b=>b<W2.heap.size) As cs sl):=Lh (HSL.out.to hb2);clear HSS HSL HV1 hW hbk hb2;have HT2:=Lh (HT.out.to HB.out);have HGD:=Lh HG.out.good;have HTM:=Lh HG.out.tame;have HZ:=Lh HG.out.siz;have HBO:Hid (∀W,Below W2.heap.size W2 W→BookOk W m h Ak ck ss):=Lh fun W hW=>(show SM W Ak ck ss from⟨HT2.out.to hW,HS2.out.to hW⟩).bookT HTM.out HZ.out
 have HPV:=Lh HGD.out.pv;have HEQ:Hid (∀s∈ss,s.texts.length=s.vers.length):=Lh fun s hs=>(HGD.out.s s hs).nt.symm
 have HPN:Hid ((Qae m h ss).length≤16384):=Lh HGD.out.p;have HSG:Hid (∀s∈sl,0≤s.g∧s.g<16):=Lh fun s hs=>(HOK.out s hs).2
 obtain⟨ns,hns⟩:∃q,sl.length=q:=⟨_,rfl⟩;have HNS:=Lh hns;have HNZ:Hid (ns≤1048576):=Lh (by have:=HN6.out;omega);rw[hns];clear hns;have q0:=HX.out.cell 0 rfl;have q1:=HX.out.cell 1 rfl;have q2:=HX.out.cell 2 rfl;have HPL:Hid ((Qae m h ss).length≤1048576):=Lh (by have:=HPN.out;omega);have HSH:Hid ((Qbg m h ss []).length=(Qae m h ss).length):=Lh (by unfold Qbg;rw[qM]);have HNIL:Hid (∀W:World,Sl W (fun b=>b<W.heap.size) none 0 ([]:List Seal)):=Lh fun W=>Sl.nil _ _ _ _ (by simp[maxLen])
 have hgn:∀s∈([]:List Seal),0≤s.g∧s.g<16:=fun s hs=>absurd hs (by simp)
 have HGN:=Lh hgn;clear hgn
 go_upto_region 3 with(first|(go_at_call 16;refine(sheets_any none 0 0 [] (HBO.out W2 bR) HT2.out HEQ.out HPV.out HPL.out (HNIL.out W2) rfl (by decide) HGN.out).mono ?_;rintro e W3 ⟨v1,rfl,ho,hb⟩;obtain⟨A8,c8,rfl,hs8⟩:=ho.sl;have HS8:=Lh hs8;have HB3:=Lh hb;clear ho hb hs8 q0 q1 q2)|fail)
 obtain⟨n,hn⟩:∃n,(Qae m h ss).length=n:=⟨_,rfl⟩;have HNP:=Lh hn;rw[hn] at HSH HPN;rw[HSH.out];have hpn:=HPN.out;have hn8:n≤c8:=by have:=HS8.out.1;rw[HSH.out] at this;exact this
 clear hn;have q0:=(HX.out.to HB3.out).cell 0 rfl;have q1:=(HX.out.to HB3.out).cell 1 rfl;have q2:=(HX.out.to HB3.out).cell 2 rfl
 go_upto_region 4 with(first|(go_at_call 26;refine(QbQ (HBO.out W3 HB3.out)).mono ?_;rintro e W4 ⟨v1,R,rfl,ho,-,hb⟩;obtain⟨Ap,cp,rfl,hsp⟩:=ho.plain.sl;have HSP:=Lh hsp;have hpc:(Qae m h ss).length≤cp:=hsp.1;have HB4:=Lh (HB3.out.trans (hb.mono HB3.out.size));have HS84:=Lh (HS8.out.to hb);clear ho hb hsp q0 q1 q2)|fail)
 obtain⟨ps,hps⟩:∃ps,Qae m h ss=ps:=⟨_,rfl⟩;have HSE:Hid (Qbg m h ss []=ps.map fun p=>Qbl [] p (Qaz (Qa1 ss p))):=Lh (by unfold Qbg;rw[hps]);have HPSE:=Lh hps;rw[hps] at HSP HPV HNP hpc ⊢;clear hps;rw[HNP.out] at hpc ⊢;have q0:=(HX.out.to HB4.out).cell 0 rfl;have q1:=(HX.out.to HB4.out).cell 1 rfl;have q2:=(HX.out.to HB4.out).cell 2 rfl;have HAN:=Lh (annexP_nil m h ss 65535 0);have hnn:((n:Int) != (n:Int))=false:=by simp
 go_wp2_with (first|(go_at_call 22;refine(Qda 0 65535 none 0 0 [] (HBO.out W4 HB4.out) (HT2.out.to HB4.out) HEQ.out (by rw[HPSE.out];exact HPV.out) HPL.out (by rw[HAN.out];decide) (HNIL.out W4) rfl (by decide) HGN.out).mono ?_;rintro e W6 ⟨v2,rfl,ho,hb⟩;rw[HAN.out] at ho;obtain⟨A9,c9,rfl,-⟩:=ho.form;have HB6:=Lh (HB4.out.trans (hb.mono HB4.out.size));have HS86:=Lh (HS84.out.to hb);have HSP6:=Lh (HSP.out.to hb);clear ho hb q0 q1 q2)|fail)
 clear HSP;have HSP:=HSP6;clear HSP6 hnn;go_loopw [10] (fun i wr=>∃k:Nat,k≤n∧i=.int .i64 (k:Int)∧Hid (Below W6.heap.size W6 wr)) (fun i _=>n-(intOf i).toNat);(case atStart=>exact⟨0,Nat.zero_le _,rfl,Lh bR⟩);case round=>
  obtain⟨k,hk,rfl,HBr⟩:=hrel;have HBw:Hid (Below W2.heap.size W2 wr):=Lh (HB6.out.trans (HBr.out.mono HB6.out.size));by_cases hlt:k<n
  ·have hkl:k<ps.length:=by rw[HNP.out];exact hlt
   have hks:k<(Qbg m h ss []).length:=(by rw[HSH.out];exact hlt);obtain⟨b8,o8,A6,c6,A7,c7,hA8,-,hl8,s0,s1,s2,hs6,hs7⟩:=sheetP_at HS86.out hks;have hse:(Qbg m h ss [])[k]=Qbl [] ps[k] (Qaz (Qa1 ss ps[k])):=(by simp only[HSE.out,List.getElem_map]);subst hA8;obtain⟨bp,op,A2,c2,A3,c3,hAp,-,hblt,p0,p1,p2,p3,p4,p5,hs1,hs2⟩:=pageS_at HSP.out hkl;have hy:=HPV.out _ (List.getElem_mem hkl);obtain⟨p,hp⟩:∃p,ps[k]=p:=⟨_,rfl⟩;rw[hp] at p0 p1 p2 p3 p4 p5 hs1 hs2 hy;have HPK:=Lh hp;have HY:=Lh hy;obtain⟨num,suf,en,ve,body,notes⟩:=p;dsimp only at p0 p1 p2 p3 p4 p5 hs1 hs2;have HPC:Hid (∀W,Below W6.heap.size W6 W→(W.cell? ⟨bp,op+k*6,none⟩=some (.int .i64 num)∧W.cell? ⟨bp,op+k*6+1,none⟩=some (.int .i64 suf)∧W.cell? ⟨bp,op+k*6+2,none⟩=some (.int .i64 en)∧W.cell? ⟨bp,op+k*6+3,none⟩=some (.int .i64 ve))∧W.cell? ⟨bp,op+k*6+4,none⟩=some (.slice A2 body.length c2)∧W.cell? ⟨bp,op+k*6+5,none⟩=some (.slice A3 notes.length c3)):=Lh fun W hW=>
    ⟨⟨(hW.cell (p:=⟨bp,op+k*6,none⟩) hblt).trans p0,(hW.cell (p:=⟨bp,op+k*6+1,none⟩) hblt).trans p1,(hW.cell (p:=⟨bp,op+k*6+2,none⟩) hblt).trans p2,(hW.cell (p:=⟨bp,op+k*6+3,none⟩) hblt).trans p3⟩,(hW.cell (p:=⟨bp,op+k*6+4,none⟩) hblt).trans p4,(hW.cell (p:=⟨bp,op+k*6+5,none⟩) hblt).trans p5⟩
   have HS1:=Lh hs1;have HS2b:=Lh hs2;have hkI:(k:Int)<(n:Int):=(by omega);have hkc:(k:Int)<(cp:Int):=(by omega);subst hAp;obtain⟨tx,htx⟩:∃t,Qa1 ss ⟨num,suf,en,ve,body,notes⟩=t:=⟨_,rfl⟩;have HTXE:=Lh htx;obtain⟨fx,hfx⟩:∃f,(QcQ ss en ve).isSome=f:=⟨_,rfl⟩
   have HTQ:Hid (∀W,Below wr.heap.size wr W→Calls Tryz.prog 27 #[.agg #[.int .i64 m,.int .i64 h,.slice Ak ss.length ck],.int .i64 en,.int .i64 ve] W fun e W'=>(∃Aa ca Ab cb,e=.returned (.tuple #[.agg #[.slice Aa tx.a.length ca,.slice Ab tx.b.length cb],.bool fx])∧Sl W' (fun b=>W.heap.size≤b) Aa ca tx.a∧Sl W' (fun b=>W.heap.size≤b) Ab cb tx.b)∧Below W.heap.size W W'):=Lh fun W hW=>by
    have hW2:Below W2.heap.size W2 W:=HBw.out.trans (hW.mono HBw.out.size);have:=textAtQ_any (m:=m) (h:=h) (w:=W) (HS2.out.to hW2) HTM.out.short HEQ.out en ve;unfold TxtQ at this;have e9:(QcQ ss en ve).getD ⟨[],[]⟩=tx:=htx;rwa [e9,hfx] at this
   have HYT:Hid (tx.a.length≤100∧tx.b.length≤100∧tot (tx.a++tx.b)≤1048576∧(∀y∈Qaz tx,y.s.size≤1000)∧∀x∈body++notes,InL (tot (tx.a++tx.b)) x):=Lh (by
    have h1:=HY.out.la
    have h2:=HY.out.lb
    have h3:=HY.out.tt
    have h4:=HY.out.ws
    have h5:=HY.out.inl
    rw[htx] at h1 h2 h3 h4 h5
    exact⟨h1,h2,h3,h4,h5⟩)
   have HBL:Hid (body.length≤1048576∧notes.length≤1048576):=Lh ⟨HY.out.bl,HY.out.nl⟩
   have HCS:Hid (∀W,Below wr.heap.size wr W→W.cell? ⟨b1,0,none⟩=some (.int .i64 m)∧W.cell? ⟨b1,1,none⟩=some (.int .i64 h)∧W.cell? ⟨b1,2,none⟩=some (.slice Ak ss.length ck)∧W.cell? ⟨bp,op+k*6+2,none⟩=some (.int .i64 en)∧W.cell? ⟨bp,op+k*6+3,none⟩=some (.int .i64 ve)):=Lh fun W hW=>by
    have hW2:Below W2.heap.size W2 W:=HBw.out.trans (hW.mono HBw.out.size);have hW3:Below W6.heap.size W6 W:=HBr.out.trans (hW.mono HBr.out.size);exact⟨(HX.out.to hW2).cell 0 rfl,(HX.out.to hW2).cell 1 rfl,(HX.out.to hW2).cell 2 rfl,(HPC.out W hW3).1.2.2.1,(HPC.out W hW3).1.2.2.2⟩
   have hzw:=HBw.out.size;have HKL:=Lh hlt;clear hy hp p0 p1 p2 p3 p4 p5 hs1 hs2 htx hfx;rw[hse] at s1 s2 hs6 hs7;rw[HPK.out] at s1 s2 hs6 hs7;obtain⟨SB,hSB⟩:∃q,(Qbl [] ⟨num,suf,en,ve,body,notes⟩ (Qaz (Qa1 ss ⟨num,suf,en,ve,body,notes⟩))).body=q:=⟨_,rfl⟩;obtain⟨SN,hSN⟩:∃q,(Qbl [] ⟨num,suf,en,ve,body,notes⟩ (Qaz (Qa1 ss ⟨num,suf,en,ve,body,notes⟩))).notes=q:=⟨_,rfl⟩;rw[hSB] at s1 hs6;rw[hSN] at s2 hs7
   have HSTR:Hid (SB++SN=(body++notes).map (QaU [] 0 en ve (Qaz tx))):=Lh (by
    rw[←hSB,←hSN]
    unfold Qbl
    dsimp only
    rw[HTXE.out,List.map_append])
   have HSZ:Hid (SB.length≤1048576∧SN.length≤1048576):=Lh (by
    rw[←hSB,←hSN]
    unfold Qbl
    dsimp only
    rw[qM,qM]
    exact HBL.out)
   have HSC:Hid (∀W,Below W6.heap.size W6 W→W.cell? ⟨b8,o8+k*3+1,none⟩=some (.slice A6 SB.length c6)∧W.cell? ⟨b8,o8+k*3+2,none⟩=some (.slice A7 SN.length c7)):=Lh fun W hW=>
    ⟨(hW.cell (p:=⟨b8,o8+k*3+1,none⟩) hl8).trans s1,(hW.cell (p:=⟨b8,o8+k*3+2,none⟩) hl8).trans s2⟩
   have HS6:=Lh hs6;have HS7:=Lh hs7;clear hse hSB hSN s0 s1 s2 hs6 hs7 hks;go_upto_region 9 with(fail);refine region_cut (fun a a' w'=>∃Aa ca Ab cb bn,a'=(((((((((((((((((a.put (some 49) (.agg #[.int .i64 m,.int .i64 h,.slice Ak ss.length ck])).put (some 50) (.slice (some ⟨bp,op,none⟩) n cp)).put (some 51) (.int .i64 (k:Int))).put (some 52) (.pointer (some ⟨bp,op+k*6,none⟩))).put (some 53) (.pointer (some ⟨bp,op+k*6+2,none⟩))).put (some 54) (.int .i64 en)).put (some 55) (.slice (some ⟨bp,op,none⟩) n cp)).put (some 56) (.int .i64 (k:Int))).put (some 57) (.pointer (some ⟨bp,op+k*6,none⟩))).put (some 58) (.pointer (some ⟨bp,op+k*6+3,none⟩))).put (some 59) (.int .i64 ve)).put (some 60) (.tuple #[.agg #[.slice Aa tx.a.length ca,.slice Ab tx.b.length cb],.bool fx])).put (some 48) (.tuple #[.agg #[.slice Aa tx.a.length ca,.slice Ab tx.b.length cb],.bool fx])).put (some 61) (.agg #[.slice Aa tx.a.length ca,.slice Ab tx.b.length cb])).put (some 62) (.bool fx)).put (some 11) (.pointer (some ⟨bn,0,none⟩))).put (some 12) (.bool fx))∧ABox w' bn 36 [.slice Aa tx.a.length ca,.slice Ab tx.b.length cb]∧Sl w' (fun i=>i<w'.heap.size) Aa ca tx.a∧Sl w' (fun i=>i<w'.heap.size) Ab cb tx.b∧wr.heap.size≤bn∧Below wr.heap.size wr w') ?_ ?_
   ·refine Qat (fun w'=>w'.cell? ⟨b1,0,none⟩=some (.int .i64 m)∧w'.cell? ⟨b1,1,none⟩=some (.int .i64 h)∧w'.cell? ⟨b1,2,none⟩=some (.slice Ak ss.length ck)∧w'.cell? ⟨bp,op+k*6+2,none⟩=some (.int .i64 en)∧w'.cell? ⟨bp,op+k*6+3,none⟩=some (.int .i64 ve)) (fun i=>decide (i<13)||decide (i=15)) (by kernel_rfl) ?_;obtain⟨V0,hV0⟩:∃V0,wr.drew=V0:=⟨_,rfl⟩;have hbd:Below wr.heap.size wr V0:=(by rw[←hV0];exact bR.drew);have HB0:=Lh hbd;rw[hV0];clear hV0 hbd;have hS0:V0.cell? ⟨b1,0,none⟩=some (.int .i64 m)∧V0.cell? ⟨b1,1,none⟩=some (.int .i64 h)∧V0.cell? ⟨b1,2,none⟩=some (.slice Ak ss.length ck)∧V0.cell? ⟨bp,op+k*6+2,none⟩=some (.int .i64 en)∧V0.cell? ⟨bp,op+k*6+3,none⟩=some (.int .i64 ve):=HCS.out V0 HB0.out;have HS0:=Lh hS0;refine tE 0 ⟨some 49,Op.load 25 (.tmp 5),25,_,_,_⟩ ?_ rfl ?zq0 (hS0) ?zq1;(case zq0=>intro wS hSw;(have hq0:=hSw.1);(have hq1:=hSw.2.1);(have hq2:=hSw.2.2.1);clear hSw;go_simp;(try with_reducible rfl));(all_goals try go_frame);refine tE 1 ⟨some 50,Op.move (.tmp 9),32,_,_,_⟩ ?_ rfl ?zq2 (hS0) ?zq3;(case zq2=>intro _ s;clear s;go_simp;(try with_reducible rfl));(all_goals try go_frame);refine tE 2 ⟨some 51,Op.move (.tmp 10),3,_,_,_⟩ ?_ rfl ?zq4 (hS0) ?zq5;(case zq4=>intro _ s;clear s;go_simp;(try with_reducible rfl));(all_goals try go_frame);refine tE 3 ⟨some 52,Op.indexAddr 32 (.tmp 50) (.tmp 51),0,_,_,_⟩ ?_ rfl ?zq6 (hS0) ?zq7;(case zq6=>intro _ s;clear s;go_simp;(try with_reducible rfl));(all_goals try go_frame);refine tE 4 ⟨some 53,Op.fieldAddr 43 (.tmp 52) 1,0,_,_,_⟩ ?_ rfl ?zq8 (hS0) ?zq9;(case zq8=>intro _ s;clear s;go_simp;(try with_reducible rfl));(all_goals try go_frame);refine tE 5 ⟨some 54,Op.load 3 (.tmp 53),3,_,_,_⟩ ?_ rfl ?zq10 (hS0) ?zq11;(case zq10=>intro wS hSw;(have hq0:=hSw.2.2.2.1);clear hSw;go_simp;(try with_reducible rfl));(all_goals try go_frame);refine tE 6 ⟨some 55,Op.move (.tmp 9),32,_,_,_⟩ ?_ rfl ?zq12 (hS0) ?zq13;(case zq12=>intro _ s;clear s;go_simp;(try with_reducible rfl));(all_goals try go_frame);refine tE 7 ⟨some 56,Op.move (.tmp 10),3,_,_,_⟩ ?_ rfl ?zq14 (hS0) ?zq15;(case zq14=>intro _ s;clear s;go_simp;(try with_reducible rfl));(all_goals try go_frame);refine tE 8 ⟨some 57,Op.indexAddr 32 (.tmp 55) (.tmp 56),0,_,_,_⟩ ?_ rfl ?zq16 (hS0) ?zq17;(case zq16=>intro _ s;clear s;go_simp;(try with_reducible rfl));(all_goals try go_frame);refine tE 9 ⟨some 58,Op.fieldAddr 43 (.tmp 57) 2,0,_,_,_⟩ ?_ rfl ?zq18 (hS0) ?zq19;(case zq18=>intro _ s;clear s;go_simp;(try with_reducible rfl));(all_goals try go_frame);refine tE 10 ⟨some 59,Op.load 3 (.tmp 58),3,_,_,_⟩ ?_ rfl ?zq20 (hS0) ?zq21;(case zq20=>intro wS hSw;(have hq0:=hSw.2.2.2.2);clear hSw;go_simp;(try with_reducible rfl));(all_goals try go_frame);refine QcC (i:=11) (j:=15) (oi:=⟨some 60,Op.call {callee:=Callee.value (Operand.func 27),args:=#[Operand.tmp 49,Operand.tmp 54,Operand.tmp 59],argTypes:=#[25,3,3]},37,_,_,_⟩) (oj:=⟨some 11,Op.alloc 36,0,_,_,_⟩) (by kernel_rfl) rfl rfl (by rfl) (by rfl) (fun K hK=>?_) (fun K hK=>?_)
    ·go_simp;go_at_call 27;refine(HTQ.out V0 HB0.out).mono ?_;rintro e V1 ⟨⟨Aa,ca,Ab,cb,rfl,h1,h2⟩,hb⟩;go_simp;have HB1:=Lh (HB0.out.trans (hb.mono HB0.out.size));have hS1:V1.cell? ⟨b1,0,none⟩=some (.int .i64 m)∧V1.cell? ⟨b1,1,none⟩=some (.int .i64 h)∧V1.cell? ⟨b1,2,none⟩=some (.slice Ak ss.length ck)∧V1.cell? ⟨bp,op+k*6+2,none⟩=some (.int .i64 en)∧V1.cell? ⟨bp,op+k*6+3,none⟩=some (.int .i64 ve):=HCS.out V1 HB1.out;have HR1:=Lh (h1.mono (S':=fun i=>i<V1.heap.size) fun i _ hl=>hl);have HR2:=Lh (h2.mono (S':=fun i=>i<V1.heap.size) fun i _ hl=>hl);clear h1 h2 hb;refine hK _ _ (fun _=>?_) ?_
     ·exact hS1
     clear hK K;(try go_frame);refine tE 12 ⟨some 48,Op.move (.tmp 60),37,_,_,_⟩ ?_ rfl ?zq22 (hS1) ?zq23;(case zq22=>intro _ s;clear s;go_simp;(try with_reducible rfl));(all_goals try go_frame);refine tF 13 ⟨some 61,Op.extract (.tmp 48) 0,36,_,_,_⟩ ?_ rfl ?zq24 ?zq25;(case zq24=>intro wS;go_simp;(try with_reducible rfl));(all_goals try go_frame);refine tF 14 ⟨some 62,Op.extract (.tmp 48) 1,4,_,_,_⟩ ?_ rfl ?zq26 ?zq27;(case zq26=>intro wS;go_simp;(try with_reducible rfl));(all_goals try go_frame);refine tD 15 ⟨some 11,Op.alloc 36,0,_,_,_⟩ rfl fun K hK=>?_
     go_simp;obtain⟨V2,hV⟩:∃V2,(V1.alloc (.cells #[.slice none 0 0,.slice none 0 0] 36))=V2:=⟨_,rfl⟩;have hb:Below V1.heap.size V1 V2:=(by rw[←hV];exact bR.alloc nL _);have hx:ABox V2 V1.heap.size 36 [.slice none 0 0,.slice none 0 0]:=(by rw[←hV];exact heap_alloc_new V1 _);obtain⟨bn,hbn⟩:∃bn,V1.heap.size=bn:=⟨_,rfl⟩;have HBN:Hid (wr.heap.size≤bn):=Lh (by rw[←hbn];exact HB1.out.size);rw[hV,hbn];rw[hbn] at hx;have HN1:=Lh ((HR1.out.keep (Kept.all hb) hb.size).mono (S':=fun i=>i≠bn) fun i (hi:i<V1.heap.size) _=>by omega);have HN2:=Lh ((HR2.out.keep (Kept.all hb) hb.size).mono (S':=fun i=>i≠bn) fun i (hi:i<V1.heap.size) _=>by omega);have HB2:=Lh (HB1.out.trans (hb.mono HB1.out.size));have hS2:V2.cell? ⟨b1,0,none⟩=some (.int .i64 m)∧V2.cell? ⟨b1,1,none⟩=some (.int .i64 h)∧V2.cell? ⟨b1,2,none⟩=some (.slice Ak ss.length ck)∧V2.cell? ⟨bp,op+k*6+2,none⟩=some (.int .i64 en)∧V2.cell? ⟨bp,op+k*6+3,none⟩=some (.int .i64 ve):=HCS.out V2 HB2.out;have HX2:=Lh hx;clear hx hb hV hbn;refine hK _ _ (fun _=>?_) ?_
     ·exact hS2
     clear hK K;(try go_frame);refine tD 16 ⟨none,Op.store 36 (.tmp 11) (.tmp 61),0,_,_,_⟩ rfl fun K hK=>?_
     have hy0:=HX2.out;have z0:=hy0.cell 0 rfl;have f0:=hy0.fz 0;have hy1:=hy0.set 0 (.slice Aa tx.a.length ca);have z1:=hy1.cell 1 rfl;have f1:=hy1.fz 1;have hy2:=hy1.set 1 (.slice Ab tx.b.length cb);have HXF:=Lh hy2;clear hy0 hy1 hy2;go_simp;clear z0 z1 f0 f1;refine hK _ _ (fun h=>absurd h (by decide)) ?_;clear hK K;(try simp only[Act.put]);refine tD 17 ⟨some 12,Op.assign (.tmp 62),4,_,_,_⟩ rfl fun K hK=>?_
     go_simp;refine hK _ _ (fun h=>absurd h (by decide)) ?_;clear hK K;(try go_frame);refine Qao (by kernel_rfl) ?_ _;refine⟨rfl,Aa,ca,Ab,cb,bn,rfl,HXF.out,?_,?_,HBN.out,?_⟩
     ·exact(HN1.out.keep (fun i hi _=>(Qaa _ _ _ _ hi).trans (Qaa _ _ _ _ hi)) (by simp)).mono fun i _ hl=>hl
     ·exact(HN2.out.keep (fun i hi _=>(Qaa _ _ _ _ hi).trans (Qaa _ _ _ _ hi)) (by simp)).mono fun i _ hl=>hl
     ·exact QbK HB2.out HBN.out _ _
    ·go_simp;obtain⟨V1,hV⟩:∃V1,(V0.alloc (.cells #[.slice none 0 0,.slice none 0 0] 36))=V1:=⟨_,rfl⟩;have hb:Below V0.heap.size V0 V1:=(by rw[←hV];exact bR.alloc nL _);have hx:ABox V1 V0.heap.size 36 [.slice none 0 0,.slice none 0 0]:=(by rw[←hV];exact heap_alloc_new V0 _);obtain⟨bn,hbn⟩:∃bn,V0.heap.size=bn:=⟨_,rfl⟩;have HBN:Hid (wr.heap.size≤bn):=Lh (by rw[←hbn];exact HB0.out.size);rw[hV,hbn];rw[hbn] at hx;have HB1:=Lh (HB0.out.trans (hb.mono HB0.out.size));have hS1:V1.cell? ⟨b1,0,none⟩=some (.int .i64 m)∧V1.cell? ⟨b1,1,none⟩=some (.int .i64 h)∧V1.cell? ⟨b1,2,none⟩=some (.slice Ak ss.length ck)∧V1.cell? ⟨bp,op+k*6+2,none⟩=some (.int .i64 en)∧V1.cell? ⟨bp,op+k*6+3,none⟩=some (.int .i64 ve):=HCS.out V1 HB1.out;have HX1:=Lh hx;clear hx hb hV hbn;refine hK _ _ (fun _=>?_) ?_
     ·exact hS1
     clear hK K;(try go_frame);refine tD 11 ⟨some 60,Op.call {callee:=Callee.value (Operand.func 27),args:=#[Operand.tmp 49,Operand.tmp 54,Operand.tmp 59],argTypes:=#[25,3,3]},37,_,_,_⟩ rfl fun K hK=>?_
     go_simp;go_at_call 27;refine(HTQ.out V1 HB1.out).mono ?_;rintro e V2 ⟨⟨Aa,ca,Ab,cb,rfl,h1,h2⟩,hb⟩;go_simp;have HB2:=Lh (HB1.out.trans (hb.mono HB1.out.size));have hS2:V2.cell? ⟨b1,0,none⟩=some (.int .i64 m)∧V2.cell? ⟨b1,1,none⟩=some (.int .i64 h)∧V2.cell? ⟨b1,2,none⟩=some (.slice Ak ss.length ck)∧V2.cell? ⟨bp,op+k*6+2,none⟩=some (.int .i64 en)∧V2.cell? ⟨bp,op+k*6+3,none⟩=some (.int .i64 ve):=HCS.out V2 HB2.out;have HX2:=Lh (HX1.out.to hb);have HN1:=Lh (h1.mono (S':=fun i=>i≠bn) fun i (hi:V1.heap.size≤i) _=>by have:=HX1.out.lt;omega);have HN2:=Lh (h2.mono (S':=fun i=>i≠bn) fun i (hi:V1.heap.size≤i) _=>by have:=HX1.out.lt;omega);clear h1 h2 hb;refine hK _ _ (fun _=>?_) ?_
     ·exact hS2
     clear hK K;(try go_frame);refine tE 12 ⟨some 48,Op.move (.tmp 60),37,_,_,_⟩ ?_ rfl ?zq28 (hS2) ?zq29;(case zq28=>intro _ s;clear s;go_simp;(try with_reducible rfl));(all_goals try go_frame);refine tF 13 ⟨some 61,Op.extract (.tmp 48) 0,36,_,_,_⟩ ?_ rfl ?zq30 ?zq31;(case zq30=>intro wS;go_simp;(try with_reducible rfl));(all_goals try go_frame);refine tF 14 ⟨some 62,Op.extract (.tmp 48) 1,4,_,_,_⟩ ?_ rfl ?zq32 ?zq33;(case zq32=>intro wS;go_simp;(try with_reducible rfl));(all_goals try go_frame);refine tD 16 ⟨none,Op.store 36 (.tmp 11) (.tmp 61),0,_,_,_⟩ rfl fun K hK=>?_
     have hy0:=HX2.out;have z0:=hy0.cell 0 rfl;have f0:=hy0.fz 0;have hy1:=hy0.set 0 (.slice Aa tx.a.length ca);have z1:=hy1.cell 1 rfl;have f1:=hy1.fz 1;have hy2:=hy1.set 1 (.slice Ab tx.b.length cb);have HXF:=Lh hy2;clear hy0 hy1 hy2;go_simp;clear z0 z1 f0 f1;refine hK _ _ (fun h=>absurd h (by decide)) ?_;clear hK K;(try simp only[Act.put]);refine tD 17 ⟨some 12,Op.assign (.tmp 62),4,_,_,_⟩ rfl fun K hK=>?_
     go_simp;refine hK _ _ (fun h=>absurd h (by decide)) ?_;clear hK K;(try go_frame);refine Qao (by kernel_rfl) ?_ _;refine⟨rfl,Aa,ca,Ab,cb,bn,rfl,HXF.out,?_,?_,HBN.out,?_⟩
     ·exact(HN1.out.keep (fun i hi _=>(Qaa _ _ _ _ hi).trans (Qaa _ _ _ _ hi)) (by simp)).mono fun i _ hl=>hl
     ·exact(HN2.out.keep (fun i hi _=>(Qaa _ _ _ _ hi).trans (Qaa _ _ _ _ hi)) (by simp)).mono fun i _ hl=>hl
     ·exact QbK HB2.out HBN.out _ _
   rintro _ w4 ⟨At,ct,Bt,dt,ot,rfl,hx,h1,h2,ho,hb⟩;have HXt:=Lh hx;have HPt:=Lh h1;have HQt:=Lh h2;have HOt:=Lh ho;have HDt:=Lh hb;clear hx h1 h2 ho hb;go_frame;have HB24:Hid (Below W2.heap.size W2 w4):=Lh (HBw.out.trans (HDt.out.mono HBw.out.size));have HB64:Hid (Below W6.heap.size W6 w4):=Lh (HBr.out.trans (HDt.out.mono HBr.out.size));obtain⟨ls,hls⟩:∃q,body++notes=q:=⟨_,rfl⟩;have HEl:=Lh hls;have HIL:Hid (∀x∈ls,InL (tot (tx.a++tx.b)) x):=Lh (by rw[←hls];exact HYT.out.2.2.2.2);obtain⟨nl,hnl⟩:∃q,ls.length=q:=⟨_,rfl⟩;have HNl:=Lh hnl;have hnl2:nl≤2097152:=(by rw[←hnl,←hls,qA];have:=HBL.out;omega);obtain⟨st,hst⟩:∃q,SB++SN=q:=⟨_,rfl⟩;have HEy:=Lh hst;have HNy:Hid (st.length=nl):=Lh (by rw[←hst,HSTR.out,qM,hls,hnl]);have HSTE:Hid (st=ls.map (QaU [] 0 en ve (Qaz tx))):=Lh (by rw[←hst,HSTR.out,hls]);clear hls hnl hst;go_upto_region 10 with(fail);refine Qag [0,6] (fun i=>if i=0 then SP.full (α:=LineP) w4.heap.size 56 [] else if i=6 then SP.own (α:=LineP) w4.heap.size 56 body else SP.any) 12 (by kernel_rfl) (by kernel_rfl) ?_;intro T _ g hg hgm;have HDB:Hid (∀d,Below W6.heap.size W6 (g d)):=Lh fun d=>HB64.out.trans ((hg d).mono HB64.out.size)
   have p4:∀d,(g d).cell? ⟨bp,op+k*6+4,none⟩=some (.slice A2 body.length c2):=fun d=>(HPC.out (g d) (HDB.out d)).2.1
   have p5:∀d,(g d).cell? ⟨bp,op+k*6+5,none⟩=some (.slice A3 notes.length c3):=fun d=>(HPC.out (g d) (HDB.out d)).2.2
   refine Qal (by rfl) (by rfl) (fun d hG K Q hK=>?_) (fun v0 d hG hp Kr hr=>?_)
   ·go_simp;exact hK _ _ (bR.alloc nL _) ⟨⟨_,rfl⟩,Own.made (g d) _ _ (hg d).size⟩
   obtain⟨⟨A0q,rfl⟩,-⟩:=(show(∃A,v0=.slice A 0 0)∧_ from hp);(try clear hp);clear hG;go_frame;refine hr _ ?_;clear hr Kr;(repeat(refine Qaf (by rfl) fun Kq hq=>?_;go_big_quiet_step (fail);refine wpQuiet_nil (hq _ ?_);clear hq Kq));refine Qal (by rfl) (by rfl) (fun d hG K Q hK=>?_) (fun v3 d hG hp Kr hr=>?_)
   ·have H0:Hid (Own (α:=LineP) (g d) w4.heap.size 56 (.slice A0q 0 0) []):=Lh (show(∃A,Value.slice A0q 0 0=.slice A 0 0)∧Own (α:=LineP) (g d) w4.heap.size 56 (.slice A0q 0 0) [] from hG 0 (by kernel_rfl)).2;have HSd:Hid (Sl (g d) (fun b=>b<(g d).heap.size) A2 c2 body):=Lh (HS1.out.to (HDB.out d));refine wp_catF (α:=LineP) (.tmp 63) (.tmp 68) 41 rfl w4.heap.size 56 (.agg #[.int .i64 0,.int .i64 0,.slice none 0 0,.slice none 0 0]) 64 Tryz.underlying41 Qbv rfl (show 0<4 by decide) A0q 0 [] rfl H0.out A2 c2 body.length body rfl rfl HSd.out (by have:=HBL.out.1;omega) (by have:=HBL.out.1;omega) (hg d).size ?_;intro v' w' ho' hb';exact hK _ _ hb' ho'
   obtain⟨A5q,c5q,rfl,-,-⟩:=(show Own (α:=LineP) (g d) w4.heap.size 56 v3 body from hp).form;(try clear hp);clear hG;go_frame;refine hr _ ?_;clear hr Kr;(repeat(refine Qaf (by rfl) fun Kq hq=>?_;go_big_quiet_step (fail);refine wpQuiet_nil (hq _ ?_);clear hq Kq));refine QaI 2 (by rfl) (by rfl) (fun d hG=>?_);have H6:Hid (Own (α:=LineP) (g d) w4.heap.size 56 (.slice A5q body.length c5q) body):=Lh (hG 6);have HB45:Hid (Below w4.heap.size w4 (g d)):=Lh (hg d);have HSn:Hid (Sl (g d) (fun b=>b<W6.heap.size) A3 c3 notes):=Lh (HS2b.out.keep (Kept.all (HDB.out d)) (HDB.out d).size);clear hG hg hgm p4 p5 HDB;generalize g d=wx at*;clear g;have HZ3:Hid (W6.heap.size≤w4.heap.size):=Lh HB64.out.size;refine Qam (i:=12) (oi:=_) rfl (by kernel_rfl) (by rfl) (fun K hK=>?_);refine QdN (α:=LineP) _ (.tmp 69) (.tmp 74) 41 rfl w4.heap.size 56 (.agg #[.int .i64 0,.int .i64 0,.slice none 0 0,.slice none 0 0]) 64 Tryz.underlying41 Qbv rfl (show 0<4 by decide) _ body rfl H6.out A3 c3 notes.length notes rfl rfl (fun b=>b<W6.heap.size) HSn.out (fun i (hi:i<W6.heap.size) _ e=>by have:=(H6.out.lt i e.symm).1;have:=HZ3.out;omega) (by have:=HBL.out;omega) (by have:=HBL.out;omega) HB45.out.size ?_;intro v' w5 ho' hg' hv';have HBl:Hid (Below w4.heap.size w4 w5):=Lh (HB45.out.grown hg' HB45.out.size (fun j hj=>(H6.out.lt j hj).1));obtain⟨Al,cl,rfl,hsq,-,hcl,-⟩:=ho'.parts;rw[HEl.out] at hsq hcl ⊢;rw[HNl.out] at hcl ⊢;have HSl:=Lh hsq;clear ho' hg' hv' H6 HSn HB45 hsq HZ3;refine hK _ _ ?_;clear hK K;(try go_frame);refine Qam (i:=13) (oi:=_) rfl (by kernel_rfl) (by rfl) (fun K hK=>?_);go_simp;refine hK _ _ ?_;clear hK K;(try go_frame);refine wpAny_done (by kernel_rfl) ?_ _;unfold Exit.then;have HB65:Hid (Below W6.heap.size W6 w5):=Lh (HB64.out.trans (HBl.out.mono HB64.out.size));have HB25:Hid (Below W2.heap.size W2 w5):=Lh (HB24.out.trans (HBl.out.mono HB24.out.size));go_upto_region 11 with(fail);refine Qag [0,6] (fun i=>if i=0 then SP.full (α:=ByteArray) w5.heap.size 9 [] else if i=6 then SP.own (α:=ByteArray) w5.heap.size 9 SB else SP.any) 12 (by kernel_rfl) (by kernel_rfl) ?_;intro T _ g hg hgm;have HDB:Hid (∀d,Below W6.heap.size W6 (g d)):=Lh fun d=>HB65.out.trans ((hg d).mono HB65.out.size)
   have p4:∀d,(g d).cell? ⟨b8,o8+k*3+1,none⟩=some (.slice A6 SB.length c6):=fun d=>(HSC.out (g d) (HDB.out d)).1
   have p5:∀d,(g d).cell? ⟨b8,o8+k*3+2,none⟩=some (.slice A7 SN.length c7):=fun d=>(HSC.out (g d) (HDB.out d)).2
   refine Qal (by rfl) (by rfl) (fun d hG K Q hK=>?_) (fun v0 d hG hp Kr hr=>?_)
   ·go_simp;exact hK _ _ (bR.alloc nL _) ⟨⟨_,rfl⟩,Own.made (g d) _ _ (hg d).size⟩
   obtain⟨⟨A0q,rfl⟩,-⟩:=(show(∃A,v0=.slice A 0 0)∧_ from hp);(try clear hp);clear hG;go_frame;refine hr _ ?_;clear hr Kr;(repeat(refine Qaf (by rfl) fun Kq hq=>?_;go_big_quiet_step (fail);refine wpQuiet_nil (hq _ ?_);clear hq Kq));refine Qal (by rfl) (by rfl) (fun d hG K Q hK=>?_) (fun v3 d hG hp Kr hr=>?_)
   ·have H0:Hid (Own (α:=ByteArray) (g d) w5.heap.size 9 (.slice A0q 0 0) []):=Lh (show(∃A,Value.slice A0q 0 0=.slice A 0 0)∧Own (α:=ByteArray) (g d) w5.heap.size 9 (.slice A0q 0 0) [] from hG 0 (by kernel_rfl)).2;have HSd:Hid (Sl (g d) (fun b=>b<(g d).heap.size) A6 c6 SB):=Lh (HS6.out.to (HDB.out d));refine wp_catF (α:=ByteArray) (.tmp 76) (.tmp 81) 44 rfl w5.heap.size 9 (.string ⟨#[]⟩) 16 Tryz.underlying44 QbT rfl (show 0<1 by decide) A0q 0 [] rfl H0.out A6 c6 SB.length SB rfl rfl HSd.out (by have:=HSZ.out.1;omega) (by have:=HSZ.out.1;omega) (hg d).size ?_;intro v' w' ho' hb';exact hK _ _ hb' ho'
   obtain⟨A5q,c5q,rfl,-,-⟩:=(show Own (α:=ByteArray) (g d) w5.heap.size 9 v3 SB from hp).form;(try clear hp);clear hG;go_frame;refine hr _ ?_;clear hr Kr;(repeat(refine Qaf (by rfl) fun Kq hq=>?_;go_big_quiet_step (fail);refine wpQuiet_nil (hq _ ?_);clear hq Kq));refine QaI 2 (by rfl) (by rfl) (fun d hG=>?_);have H6:Hid (Own (α:=ByteArray) (g d) w5.heap.size 9 (.slice A5q SB.length c5q) SB):=Lh (hG 6);have HB45:Hid (Below w5.heap.size w5 (g d)):=Lh (hg d);have HSn:Hid (Sl (g d) (fun b=>b<W6.heap.size) A7 c7 SN):=Lh (HS7.out.keep (Kept.all (HDB.out d)) (HDB.out d).size);clear hG hg hgm p4 p5 HDB;generalize g d=wx at*;clear g;have HZ3:Hid (W6.heap.size≤w5.heap.size):=Lh HB65.out.size;refine Qam (i:=12) (oi:=_) rfl (by kernel_rfl) (by rfl) (fun K hK=>?_);refine QdN (α:=ByteArray) _ (.tmp 82) (.tmp 87) 44 rfl w5.heap.size 9 (.string ⟨#[]⟩) 16 Tryz.underlying44 QbT rfl (show 0<1 by decide) _ SB rfl H6.out A7 c7 SN.length SN rfl rfl (fun b=>b<W6.heap.size) HSn.out (fun i (hi:i<W6.heap.size) _ e=>by have:=(H6.out.lt i e.symm).1;have:=HZ3.out;omega) (by have:=HSZ.out;omega) (by have:=HSZ.out;omega) HB45.out.size ?_;intro v' w7 ho' hg' hv';have HBy:Hid (Below w5.heap.size w5 w7):=Lh (HB45.out.grown hg' HB45.out.size (fun j hj=>(H6.out.lt j hj).1));obtain⟨Ay,cy,rfl,hsq,-,hcy,-⟩:=ho'.parts;rw[HEy.out] at hsq hcy ⊢;rw[HNy.out] at hcy ⊢;have HSy:=Lh hsq;clear ho' hg' hv' H6 HSn HB45 hsq HZ3;refine hK _ _ ?_;clear hK K;(try go_frame);refine Qam (i:=13) (oi:=_) rfl (by kernel_rfl) (by rfl) (fun K hK=>?_);go_simp;refine hK _ _ ?_;clear hK K;(try go_frame);refine wpAny_done (by kernel_rfl) ?_ _;unfold Exit.then;have HB67:Hid (Below W6.heap.size W6 w7):=Lh (HB65.out.trans (HBy.out.mono HB65.out.size));have HB27:Hid (Below W2.heap.size W2 w7):=Lh (HB25.out.trans (HBy.out.mono HB25.out.size));have HB47:Hid (Below w4.heap.size w4 w7):=Lh (HBl.out.trans (HBy.out.mono HBl.out.size));have HLl7:=Lh (HSl.out.to HBy.out);obtain⟨wo,rfl⟩:∃wo:World,wo=wr:=⟨_,rfl⟩;have hnn:((nl:Int) != (nl:Int))=false:=(by simp);go_wp2_with fail;go_loopw [15] (fun i wr=>∃j:Nat,j≤nl∧i=.int .i64 (j:Int)∧Hid (Below w7.heap.size w7 wr)) (fun i _=>nl-(intOf i).toNat);(case atStart=>exact⟨0,Nat.zero_le _,rfl,Lh bR⟩);case round=>
    obtain⟨j,hj,rfl,HBj⟩:=hrel;have HB2j:Hid (Below W2.heap.size W2 wr):=Lh (HB27.out.trans (HBj.out.mono HB27.out.size));have HB6j:Hid (Below W6.heap.size W6 wr):=Lh (HB67.out.trans (HBj.out.mono HB67.out.size));by_cases hjl:j<nl
    ·have hjk:j<ls.length:=by rw[HNl.out];exact hjl
     have hjs:j<st.length:=(by rw[HNy.out];exact hjl);obtain⟨bl,ol,Ag,cg,An,cn,hAl,-,hbl,f0,f1,f2,f3,-,-⟩:=QbA HLl7.out hjk;obtain⟨bt,ot2,hAs,-,hbt,-,g0⟩:=str_at HSy.out hjs;have hste:st[j]=QaU [] 0 en ve (Qaz tx) ls[j]:=(by simp only[HSTE.out,List.getElem_map]);obtain⟨x,hx⟩:∃x,ls[j]=x:=⟨_,rfl⟩;have hin:=HIL.out _ (List.getElem_mem hjk);rw[hx] at f0 f1 f2 f3 hin hste;rw[hste] at g0;obtain⟨fr,un,gaps,nts⟩:=x;obtain⟨f,rfl⟩:=Int.eq_ofNat_of_zero_le (show 0≤fr from hin.1);obtain⟨U,rfl⟩:=Int.eq_ofNat_of_zero_le (show 0≤un by have h1:(f:Int)<un:=hin.2.1;omega);have hfU:f<U:=(by have h1:(f:Int)<(U:Int):=hin.2.1;omega);have hUt:U≤tot (tx.a++tx.b):=(by have h1:(U:Int)≤((tot (tx.a++tx.b):Nat):Int):=hin.2.2;omega);have hUm:U≤1048576:=Nat.le_trans hUt HYT.out.2.2.1;have hpl:QaU [] 0 en ve (Qaz tx) ⟨(f:Int),(U:Int),gaps,nts⟩=QaX (QaE (Qaz tx) f U):=by
      rw[lineS_to (N:=tot (tx.a++tx.b)) hin,lineTo_see (seeB_nil 0 en ve)];rfl
     rw[hpl] at g0;dsimp only at f0 f1 f2 f3;subst hAl;subst hAs;have HLC:Hid (∀W,Below w7.heap.size w7 W→W.cell? ⟨bl,ol+j*4,none⟩=some (.int .i64 (f:Int))∧W.cell? ⟨bl,ol+j*4+1,none⟩=some (.int .i64 (U:Int))∧W.cell? ⟨bl,ol+j*4+2,none⟩=some (.slice Ag gaps.length cg)∧W.cell? ⟨bl,ol+j*4+3,none⟩=some (.slice An nts.length cn)):=Lh fun W hW=>
      ⟨(hW.cell (p:=⟨bl,ol+j*4,none⟩) hbl).trans f0,(hW.cell (p:=⟨bl,ol+j*4+1,none⟩) hbl).trans f1,(hW.cell (p:=⟨bl,ol+j*4+2,none⟩) hbl).trans f2,(hW.cell (p:=⟨bl,ol+j*4+3,none⟩) hbl).trans f3⟩
     obtain⟨PS,hPS⟩:∃s,QaX (QaE (Qaz tx) f U)=s:=⟨_,rfl⟩;have HPSE2:=Lh hPS;rw[hPS] at g0;have HGC:Hid (∀W,Below w7.heap.size w7 W→W.cell? ⟨bt,ot2+j,none⟩=some (.string PS)):=Lh fun W hW=>(hW.cell (p:=⟨bt,ot2+j,none⟩) hbt).trans g0
     have HVL:Hid (∀W,Below w7.heap.size w7 W→Calls Tryz.prog 24 #[.agg #[.int .i64 num,.int .i64 suf,.int .i64 en,.int .i64 ve,.slice A2 body.length c2,.slice A3 notes.length c3],.agg #[.int .i64 (f:Int),.int .i64 (U:Int),.slice Ag gaps.length cg,.slice An nts.length cn],.agg #[.slice At tx.a.length ct,.slice Bt tx.b.length dt],.slice As ns cs,.int .i64 65535] W fun r W'=>r=.returned (.string PS)∧Below W.heap.size W W'):=Lh fun W hW=>by
      have h4:Below w4.heap.size w4 W:=HB47.out.trans (hW.mono HB47.out.size);have h2:Below W2.heap.size W2 W:=HB27.out.trans (hW.mono HB27.out.size);have h9:=vline_any num suf en ve A2 A3 body.length c2 notes.length c3 f U Ag An gaps.length cg nts.length cn At Bt ct dt tx.a tx.b As cs ns sl 65535 W (HPt.out.to h4) (HQt.out.to h4) HYT.out.1 HYT.out.2.1 HYT.out.2.2.1 HYT.out.2.2.2.1 (HSL2.out.to h2) HNS.out HNZ.out HSG.out (HT2.out.to h2) hfU hUt;rw[lineTo_see (fun y=>seeB_all HSG.out en ve y)] at h9;have e9:QaX (QaE (Qaz ⟨tx.a,tx.b⟩) f U)=PS:=hPS;rwa [e9] at h9
     have hjI:(j:Int)<(nl:Int):=(by omega);have hjc:(j:Int)<(cl:Int):=(by omega);have HJL:=Lh hjl;have hUtt:=HYT.out.2.2.1;have HUT:=Lh hUt;clear hPS hpl hste hx hin f0 f1 f2 f3 g0 hbl hbt hjk hjs;have l0:=(HLC.out wr HBj.out).1;have HJ0:Hid (QaX (QaE (Qaz tx) f f)=⟨#[]⟩):=Lh (by rw[plainTo_self];rfl);go_wp2_with fail;obtain⟨wi,rfl⟩:∃wi:World,wi=wr:=⟨_,rfl⟩;go_loopw [16,17] (fun s v wr=>∃q:Nat,f≤q∧q≤U∧v=.int .i64 (q:Int)∧s=.string (QaX (QaE (Qaz tx) f q))∧Hid (Below w7.heap.size w7 wr)) (fun _ v _=>U-(intOf v).toNat);(case atStart=>exact⟨f,Nat.le_refl _,by omega,rfl,by rw[HJ0.out],HBj⟩);case round=>
      obtain⟨q,hfq,hqU,rfl,rfl,HBq⟩:=hrel;have l1:=(HLC.out wr HBq.out).2.1;have HB2q:Hid (Below W2.heap.size W2 wr):=Lh (HB27.out.trans (HBq.out.mono HB27.out.size));have HB4q:Hid (Below w4.heap.size w4 wr):=Lh (HB47.out.trans (HBq.out.mono HB47.out.size));by_cases hqI:q<U
      ·have hq1:(q:Int)<(U:Int):=by omega
       have hqt:q<(Qaz tx).length:=(by have h1:(Qaz tx).length=tot (tx.a++tx.b):=QbX tx;have:=HUT.out;omega);obtain⟨y,hy⟩:∃y,(Qaz tx)[q]=y:=⟨_,rfl⟩;have hsz:=HYT.out.2.2.2.1 _ (List.getElem_mem hqt);rw[hy] at hsz
       have HWQ:Hid (Calls Tryz.prog 31 #[.agg #[.slice At tx.a.length ct,.slice Bt tx.b.length dt],.int .i64 (q:Int)] wr fun e w'=>e=.returned (.tuple #[.agg #[.string y.s,.string y.key,.int .i64 y.t,.int .i64 y.n],.bool true])∧Below wr.heap.size wr w'):=Lh (by
        have h1:=gword_any At Bt ct dt tx.a tx.b (q:Int) wr (by constructor<;>omega) (HPt.out.to HB4q.out) (HQt.out.to HB4q.out) (by have:=HYT.out.1;omega) (by have:=HYT.out.2.1;omega) (by have:=HYT.out.2.2.1;omega)
        have e1:Qcl (tx.a++tx.b) (q:Int)=y:=by
         unfold Qcl
         rw[if_neg (by omega),Int.toNat_natCast,List.getD_eq_getElem?_getD]
         have h2:(tx.a++tx.b).flatten[q]? =some y:=by
          rw[←hy]
          exact qG hqt
         rw[h2]
         rfl
        have e2:QbF (tx.a++tx.b) (q:Int)=true:=by
         unfold QbF
         exact decide_eq_true ⟨by omega,by have h1:(Qaz tx).length=tot (tx.a++tx.b):=QbX tx;omega⟩
        rw[e1,e2] at h1
        exact h1)
       have HPN2:=Lh (plainTo_succ hfq hqt);rw[hy] at HPN2;have HNX:=Lh (joinS_next (l:=QaE (Qaz tx) f q) (x:=y.s) (Qdf _ f q));have hz1:=QcL (QaE (Qaz tx) f q) (plainTo_size HYT.out.2.2.2.1);rw[Qdf] at hz1;obtain⟨s,hs⟩:∃s,QaX (QaE (Qaz tx) f q)=s:=⟨_,rfl⟩;have HSE2:=Lh hs;rw[hs] at hz1 HNX ⊢;have hs1:s.size≤1100000000:=(by omega);have l0:=(HLC.out wr HBq.out).1;have t0:=(HXt.out.to HB4q.out).cell 0 rfl;have t1:=(HXt.out.to HB4q.out).cell 1 rfl;clear hy hs hz1 hqt;by_cases hqf:f<q
       ·have hgt:(f:Int)<(q:Int):=by omega
        rw[if_pos (by omega)] at HNX
        go_wp2_with (first|(go_at_call 31;refine HWQ.out.mono ?_;rintro e w9 ⟨rfl,hb⟩;have HB9:=Lh hb;have m0:=(HLC.out w9 (HBq.out.trans (hb.mono HBq.out.size))).1;have HBN:Hid (Below w7.heap.size w7 (w9.alloc (.cells #[.string y.s,.string y.key,.int .i64 y.t,.int .i64 y.n] 66))):=Lh ((HBq.out.trans (hb.mono HBq.out.size)).alloc (by have:=HBq.out.size;have:=hb.size;omega) _);have n0:=(HLC.out _ HBN.out).1;clear hb l0 l1 t0 t1)|fail)
        go_roundw;(case rel=>exact⟨q+1,by omega,by omega,by go_num,by rw[HPN2.out,HNX.out],HBN⟩);case measure=>(first|(simp[intOf];done)|(simp[intOf];omega))
       ·have hgt:¬(f:Int)<(q:Int):=by omega
        have HS0:Hid (s=⟨#[]⟩):=Lh (by
         obtain rfl:q=f:=by omega
         rw[←HSE2.out,HJ0.out])
        rw[if_neg (by omega)] at HNX;rw[HS0.out]
        go_wp2_with (first|(go_at_call 31;refine HWQ.out.mono ?_;rintro e w9 ⟨rfl,hb⟩;have HB9:=Lh hb;have m0:=(HLC.out w9 (HBq.out.trans (hb.mono HBq.out.size))).1;have HBN:Hid (Below w7.heap.size w7 (w9.alloc (.cells #[.string y.s,.string y.key,.int .i64 y.t,.int .i64 y.n] 66))):=Lh ((HBq.out.trans (hb.mono HBq.out.size)).alloc (by have:=HBq.out.size;have:=hb.size;omega) _);have n0:=(HLC.out _ HBN.out).1;clear hb l0 l1 t0 t1)|fail)
        go_roundw;(case rel=>exact⟨q+1,by omega,by omega,by go_num,by rw[HPN2.out,HNX.out];exact str_eq (by show(⟨#[]⟩:ByteArray)++y.s=y.s;apply ByteArray.ext;simp),HBN⟩);case measure=>(first|(simp[intOf];done)|(simp[intOf];omega))
      ·obtain rfl:q=U:=by omega
       have hq1:¬(q:Int)<(q:Int):=(by omega);rw[HPSE2.out];go_upto_region 27 with(fail);refine Qag [17] (fun i=>if i=17 then SP.val (.string PS) else SP.any) 21 (by kernel_rfl) (by kernel_rfl) ?_;intro T _ g hg hgm;have HD7:Hid (∀d,Below w7.heap.size w7 (g d)):=Lh fun d=>HBq.out.trans ((hg d).mono HBq.out.size)
       have HD6:Hid (∀d,Below W6.heap.size W6 (g d)):=Lh fun d=>HB67.out.trans ((HD7.out d).mono HB67.out.size)
       have HD4:Hid (∀d,Below w4.heap.size w4 (g d)):=Lh fun d=>HB47.out.trans ((HD7.out d).mono HB47.out.size)
       have p0:∀d,(g d).cell? ⟨bp,op+k*6,none⟩=some (.int .i64 num):=fun d=>(HPC.out (g d) (HD6.out d)).1.1
       have p1:∀d,(g d).cell? ⟨bp,op+k*6+1,none⟩=some (.int .i64 suf):=fun d=>(HPC.out (g d) (HD6.out d)).1.2.1
       have p2:∀d,(g d).cell? ⟨bp,op+k*6+2,none⟩=some (.int .i64 en):=fun d=>(HPC.out (g d) (HD6.out d)).1.2.2.1
       have p3:∀d,(g d).cell? ⟨bp,op+k*6+3,none⟩=some (.int .i64 ve):=fun d=>(HPC.out (g d) (HD6.out d)).1.2.2.2
       have p4:∀d,(g d).cell? ⟨bp,op+k*6+4,none⟩=some (.slice A2 body.length c2):=fun d=>(HPC.out (g d) (HD6.out d)).2.1
       have p5:∀d,(g d).cell? ⟨bp,op+k*6+5,none⟩=some (.slice A3 notes.length c3):=fun d=>(HPC.out (g d) (HD6.out d)).2.2
       have l0:∀d,(g d).cell? ⟨bl,ol+j*4,none⟩=some (.int .i64 (f:Int)):=fun d=>(HLC.out (g d) (HD7.out d)).1
       have l1:∀d,(g d).cell? ⟨bl,ol+j*4+1,none⟩=some (.int .i64 (q:Int)):=fun d=>(HLC.out (g d) (HD7.out d)).2.1
       have l2:∀d,(g d).cell? ⟨bl,ol+j*4+2,none⟩=some (.slice Ag gaps.length cg):=fun d=>(HLC.out (g d) (HD7.out d)).2.2.1
       have l3:∀d,(g d).cell? ⟨bl,ol+j*4+3,none⟩=some (.slice An nts.length cn):=fun d=>(HLC.out (g d) (HD7.out d)).2.2.2
       have t0:∀d,(g d).cell? ⟨ot,0,none⟩=some (.slice At tx.a.length ct):=fun d=>(HXt.out.to (HD4.out d)).cell 0 rfl
       have t1:∀d,(g d).cell? ⟨ot,1,none⟩=some (.slice Bt tx.b.length dt):=fun d=>(HXt.out.to (HD4.out d)).cell 1 rfl
       have g0:∀d,(g d).cell? ⟨bt,ot2+j,none⟩=some (.string PS):=fun d=>HGC.out (g d) (HD7.out d)
       (repeat(refine Qaf (by rfl) fun Kq hq=>?_;go_big_quiet_step (fail);refine wpQuiet_nil (hq _ ?_);clear hq Kq));refine Qal (by rfl) (by rfl) (fun d hG K Q hK=>?_) (fun v d hG hp Kr hr=>?_)
       ·go_simp;go_at_call 24;refine(HVL.out (g d) (HD7.out d)).mono ?_;rintro e W1 ⟨rfl,hb1⟩;go_simp;exact hK _ _ hb1 (rfl)
       have hp:v=.string PS:=hp;subst hp;(try clear hp);clear hG;go_frame;refine hr _ ?_;clear hr Kr;(repeat(refine Qaf (by rfl) fun Kq hq=>?_;go_big_quiet_step (fail);refine wpQuiet_nil (hq _ ?_);clear hq Kq));refine wpR_end (by kernel_rfl) (fun d hG=>?_) _;have HBN:Hid (Below w7.heap.size w7 (g d)):=Lh (HD7.out d);clear p0 p1 p2 p3 p4 p5 l0 l1 l2 l3 t0 t1 g0 HD7 HD6 HD4;have HBd:=Lh (hg d);clear hG hg hgm;unfold Exit.then;go_wp2_with fail;go_roundw;(case rel=>exact⟨j+1,by have:=HJL.out;omega,by go_num,HBN⟩);case measure=>(have:=HJL.out;first|(simp[intOf];done)|(simp[intOf];omega))
    ·obtain rfl:j=nl:=by omega
     have hjI:¬(j:Int)<(j:Int):=(by omega);go_wp2_with fail;go_roundw;(case rel=>exact⟨k+1,by have:=HKL.out;omega,by go_num,HB6j⟩);case measure=>(have:=HKL.out;first|(simp[intOf];done)|(simp[intOf];omega))
  ·obtain rfl:k=n:=by omega
   have hkI:¬(k:Int)<(k:Int):=(by omega);have HBF:Hid (Below W1.heap.size W1 wr):=Lh (HB.out.trans (HBw.out.mono HB.out.size));have HL:=Lh (lives32_any wr (HT.out.to HBF.out))
   go_wp2_with (first|(go_at_call 20;refine HL.out.mono ?_;rintro e w2 ⟨rfl,hb2⟩;have HBE:Hid (Below W1.heap.size W1 w2):=Lh (HBF.out.trans (hb2.mono HBF.out.size));clear hb2)|fail)
   go_ret;exact⟨rfl,HBE.out⟩
end Go.Proofs.YtegaapiocihcpaaGreatDoor
namespace Go.Proofs.YtegaapiocihcpaaGreatDoor
open Go.ChangeShapes Go.WideShapes Go.ChangeAt Go.RowKit Go.Deep
variable {H:Type} {enc:TypeId × Value→H} {P:Program}
end Go.Proofs.YtegaapiocihcpaaGreatDoor
namespace Go.Proofs.YtegaapiocihcpaaGreatDoor
open Go.ChangeShapes Go.WideShapes Go.ChangeAt Go.RowKit Go.Deep
variable {H:Type} {enc:TypeId × Value→H} {P:Program}
theorem QcV {t e:TypeId}{W:World}{base:Nat}{v:Value}{d:DataW H}{ps:List MemPlace}(ht:P.underlying t=some (.slice e))(he:P.underlying e=some (.int .i64))(hc:P.cellsOf e=1) (hval:Value.okWide P W .any base t v) (h:DataW.Trod enc P W 0 (fun _=>true) true t v d ps):∃A c,∃l:List Int,v=.slice A l.length c∧Sl W (fun b=>b<W.heap.size) A c l:=by
 obtain⟨a,len,cap,rfl⟩:=okWide_slice ht hval;obtain⟨fuel,hf⟩:=h;rcases open_ints ht he hc hf with⟨hcs,_⟩|⟨a',len',cap',zs,hcs,_,hl,hm,hz,_,hcell,hwf⟩
 ·simp[Value.cells] at hcs;obtain⟨rfl,rfl,rfl⟩:=hcs;exact⟨none,0,[],rfl,Sl.nil _ _ _ _ (by simp[maxLen])⟩
 ·simp[Value.cells] at hcs;obtain⟨rfl,rfl,rfl⟩:=hcs;have hz':zs.length=cap:=(by simpa using hz);have hlt:(zs.take len).length=len:=(by rw[qK];omega);refine⟨some a',cap,zs.take len,by rw[hlt],by rw[hlt];exact hl,hm,fun h0=>?_⟩;obtain⟨b,o,rfl,hat⟩:=Go.ints_at hcell (by omega);refine⟨b,o,rfl,World.block_lt_of_cell? W _ (hat 0 (by omega)),World.block_lt_of_cell? W _ (hat 0 (by omega)),fun i hi=>?_⟩;rw[hlt] at hi
  have e:zs.getD i 0=(zs.take len)[i]'(by omega):=by
   rw[List.getElem_take,List.getD_eq_getElem?_getD,qG (by omega)];rfl
  refine⟨[.int .i64 (zs.getD i 0)],⟨by rw[e],?_⟩,fun j u hu=>?_⟩
  ·exact i64_wf (hwf _ (List.mem_of_mem_take (List.getElem_mem (by omega))))
  ·have hj:j=0:=by
    rcases j with _|j
    ·rfl
    ·simp at hu
   subst hj;simp only[List.getElem?_cons_zero,Option.some.injEq] at hu;subst hu;have:=hat i (by omega);show W.cell? ⟨b,o+i*1+0,none⟩=_;rw[Nat.mul_one,Nat.add_zero];exact this
end Go.Proofs.YtegaapiocihcpaaGreatDoor
namespace Go.Proofs.YtegaapiocihcpaaGreatDoor.rowViewOpens
open Go.ChangeShapes Go.WideShapes Go.ChangeAt Go.RowKit
set_option maxRecDepth 100000 in
theorem contract (H:Type)(enc:TypeId × Value→H)(W:World)(base:Nat)(args:Array Value)(ds gs:List (DataW H))(before:List MemPlace) (hval:∀(j:Nat) t v,Tryz.f7.params[j]? =some t→args[j]? =some v→Value.okWide Tryz.prog W .any base t v) (hW:DataW.Whole enc Tryz.prog Tryz.f7.params.toList Rows.viewOpensSpec.vars false W args.toList ds gs before) (hL:laidMetH Tryz.prog laidL W):
 Calls Tryz.prog 7 args W fun e W'=>∃v,e=.returned v∧Rows.viewOpensSpec.post enc Tryz.prog Tryz.f7 false true false false W args v W':=by
 have hW':=hW;obtain⟨p,q,hA0,hV,rfl,hfz,hnd⟩:=hW;have hA:DataW.TrodAll enc Tryz.prog W 0 (fun _=>true) true Tryz.f7.params.toList args.toList ds p:=hA0;rw[Tryz.params7] at hA hval;obtain⟨v0,vs0,d0,ds0,p0,q0,hargs,rfl,rfl,h0,r0⟩:=trodAll_cons hA;obtain⟨v1,vs1,d1,ds1,p1,q1,rfl,rfl,rfl,h1,r1⟩:=trodAll_cons r0;obtain⟨rfl,rfl,rfl⟩:=trodAll_nil r1;obtain rfl:args=#[v0,v1]:=by cases args;simp_all
 obtain⟨rfl,rfl⟩:=trodVars_none hV;obtain⟨A0,c0,l0,rfl,hl0⟩:=QcV Tryz.underlying22 Tryz.underlying3 cells_int (hval 0 22 v0 rfl rfl) h0;obtain⟨A1,c1,l1,rfl,hl1⟩:=QcV Tryz.underlying22 Tryz.underlying3 cells_int (hval 1 22 v1 rfl rfl) h1;refine(viewopens_any A0 c0 l0 A1 c1 l1 W hl0 hl1 (tabs_of hL)).mono fun e W' ⟨he,hb⟩=>?_
 subst he;exact⟨_,rfl,row_close laidOut Tryz.underlying4 (by kernel_rfl) (by kernel_rfl) rfl hW' rfl hb⟩
theorem laid_met (os:Os):laidMet Tryz.prog Rows.viewOpensRow.laid ((laidWorld os).forCall (fun _ _=>0) ⟨#[],#[.slice none 0 0,.slice none 0 0],[]⟩).memory:=
 laidMet_of_run' 8 (by kernel_rfl) (by kernel_rfl)
theorem reads (os:Os){H:Type}(enc:TypeId × Value→H):∃places,DataW.whole enc Tryz.prog ((laidWorld os).forCall (fun _ _=>0) ⟨#[],#[.slice none 0 0,.slice none 0 0],[]⟩).memory Tryz.f7.params.toList Rows.viewOpensSpec.vars false (#[.slice none 0 0,.slice none 0 0]:Array Value).toList 8=some ([.nil,.nil],[],places):=
 ⟨[],by kernel_rfl⟩
set_option maxRecDepth 100000 in
theorem lifted (os:Os)(started:os.Started)(H:Type)(enc:TypeId × Value→H)(F:Stop.Interp):
 ReturnsInHanded {} Tryz.checked os 7 .any ((OpenSpec.ofChange Rows.viewOpensSpec).preRow enc Tryz.prog Tryz.f7 Rows.viewOpensRow.domain false Rows.viewOpensRow.laid) (((OpenSpec.ofChange Rows.viewOpensSpec).at F).post enc Tryz.prog Tryz.f7 false true false false):=by
 obtain⟨places,hx⟩:=reads os enc
 refine returnsInHanded_of_row (C:=Tryz.checked) (s:=(OpenSpec.ofChange Rows.viewOpensSpec)) own started (by kernel_rfl) Tryz.func7
  (witness_row_at (enc:=enc) (C:=Tryz.checked) false (laidWorld os) #[.slice none 0 0,.slice none 0 0] rfl (by kernel_rfl) (by kernel_rfl) (by kernel_rfl) (OpenSpec.preRow_of_cond 8 hx (by kernel_rfl) (fun k hk=>by cases hk) (by kernel_rfl) (laid_met os))) ?_
 intro W base args ds gs before hval hW _ _ _ hL _ _;exact contract H enc W base args ds gs before hval hW hL
theorem said:Rows.ViewOpensSaid:=
 OpenClaim.holds_of_cond 7 Tryz.f7 rfl rfl rfl rfl rfl rfl rfl ⟨rfl,rfl,rfl,rfl,rfl⟩ rfl rfl rfl rfl rfl (by kernel_rfl) Tryz.func7 (by kernel_rfl) (of_decide_eq_true (by kernel_rfl)) (by unfold Func.isWrapper;first|(rw[if_pos (by decide +kernel)];kernel_rfl)|(rw[if_neg (by decide +kernel)];exact⟨rfl,rfl⟩)) (fun os started H enc _ F=>by rw[OpenClaim.pre_eq_preRow];exact lifted os started H enc F)
theorem wants:Tryz.f7.params.all (fun t=> !Tryz.prog.wantsStandIn t)=true:=by kernel_rfl
theorem plain (f:FuncId)(fn:Func)(hf:Tryz.pinned.checked.prog.funcNamed "rollbook/rollbooklaw32.ViewOpens" =some f)(hfn:Tryz.pinned.checked.prog.funcs[f]? =some fn):
 false=Tryz.pinned.checked.prog.looks []∧∀(j:Nat) t,fn.params[j]? =some t→Tryz.pinned.checked.prog.wantsStandIn t=false:=by
 obtain rfl:f=7:=Option.some.inj ((show Tryz.prog.funcNamed "rollbook/rollbooklaw32.ViewOpens" =some 7 by kernel_rfl).symm.trans hf) |>.symm;obtain rfl:fn=Tryz.f7:=(Option.some.inj (Tryz.func7.symm.trans hfn)).symm;refine⟨by kernel_rfl,fun j t ht=>?_⟩;have:=Array.all_eq_true_iff_forall_mem.1 wants t (Array.mem_of_getElem? ht);exact(by simpa using this:Tryz.prog.wantsStandIn t=false)
theorem card:Rows.ViewOpensCardSaid:=
 Claim7.holds_tied_plain_at .later [] _ _ _ _ said (fun _ h=>by cases h) (by kernel_rfl) (fun _ h=>by cases h) viewOpens_row_tie rfl ⟨rfl,rfl⟩ (by kernel_rfl) rfl plain (by kernel_rfl)
#print axioms card
end Go.Proofs.YtegaapiocihcpaaGreatDoor.rowViewOpens
