/- Texts of BookC10. -/
import Derived.Test.YtakaielemicpkaaGreatDoorBZg11
set_option maxHeartbeats 16000000
namespace Go.Proofs.YtakaielemicpkaaGreatDoor
open Go.RowKit
structure LB (w:World)(b:Nat)(A:Option Addr)(c:Nat)(l:List SectP):Prop where
 bx:ABox w b 27 [.int .i64 500,.int .i64 4,.slice A l.length c]
 sm:SM w A c l
theorem LB.to {w w':World}{b c:Nat}{A:Option Addr}{l:List SectP}(h:LB w b A c l)(hb:Below w.heap.size w w'):LB w' b A c l:=⟨h.bx.to hb,h.sm.to hb⟩
theorem LB.fresh {w:World}{A:Option Addr}{c:Nat}{l:List SectP}(h:SM w A c l):LB (w.alloc (.cells #[.int .i64 500,.int .i64 4,.slice A l.length c] 27)) w.heap.size A c l∧Below w.heap.size w (w.alloc (.cells #[.int .i64 500,.int .i64 4,.slice A l.length c] 27)):=
 have hb:Below w.heap.size w (w.alloc (.cells #[.int .i64 500,.int .i64 4,.slice A l.length c] 27)):=bR.alloc nL _
 ⟨⟨heap_alloc_new w _,h.to hb⟩,hb⟩
def bkSt (w:World)(b:Nat)(A:Option Addr)(c n:Nat):World:=((w.setCell ⟨b,0,none⟩ (.int .i64 500)).setCell ⟨b,1,none⟩ (.int .i64 4)).setCell ⟨b,2,none⟩ (.slice A n c)
theorem LB.into {w w1:World}{A:Option Addr}{c:Nat}{l:List SectP}{b:Nat}(hT:Tabs w)(h1:Below w.heap.size w w1)(hx:ABox w1 b 27 [.int .i64 0,.int .i64 0,.slice none 0 0])(hb:w.heap.size≤b)(ha:Sl w1 (fun i=>i≠b) A c l):LB (bkSt w1 b A c l.length) b A c l∧Below w.heap.size w (bkSt w1 b A c l.length):=by
 have hB:Below w.heap.size w (bkSt w1 b A c l.length):=below3 h1 hb _ _ _;refine⟨⟨Qax hx _ _ _,hT.to hB,?_⟩,hB⟩;refine(ha.keep (fun i hi _=>?_) (by unfold bkSt;simp)).mono fun i _ h=>h
 exact(Qaa _ _ _ _ hi).trans ((Qaa _ _ _ _ hi).trans (Qaa _ _ _ _ hi))
theorem QcE {P:Program}{c:Code}{a:Act}{w:World}{Q:Exit→Act→World→Prop}(R:Act→Act→World→Prop)(h1:c.wp P (fun e a' w'=>e=.normal∧R a a' w') a w)(h2:∀a' w',R a a' w'→Q .normal a' w'):c.wp P Q a w:=
 wp_mono h1 (fun e a' w' h=>by obtain⟨rfl,h⟩:=h;exact h2 a' w' h)
set_option maxRecDepth 100000 in
theorem lives_any (W1:World)(hT:Tabs W1):Calls Tryz.prog 17 #[] W1 fun e w'=>e=.returned (.bool true)∧Below W1.heap.size W1 w':=by
 have HB:Hid (Below W1.heap.size W1 W1):=Lh bR;have HW5:Hid (∀w,Calls Tryz.prog 37 #[.int .i64 5] w fun e w'=>∃A c,e=.returned (.agg #[.slice A 1 c,.slice none 0 0])∧Sl w' (fun b=>w.heap.size≤b∧b<w'.heap.size) A c [List.replicate 5 Qbf]∧Below w.heap.size w w'):=Lh (fun w=>QdN 5 (by decide) w);have HW4:Hid (∀w,Calls Tryz.prog 37 #[.int .i64 4] w fun e w'=>∃A c,e=.returned (.agg #[.slice A 1 c,.slice none 0 0])∧Sl w' (fun b=>w.heap.size≤b∧b<w'.heap.size) A c [List.replicate 4 Qbf]∧Below w.heap.size w w'):=Lh (fun w=>QdN 4 (by decide) w);have HW9:Hid (∀w,Calls Tryz.prog 37 #[.int .i64 9] w fun e w'=>∃A c,e=.returned (.agg #[.slice A 1 c,.slice none 0 0])∧Sl w' (fun b=>w.heap.size≤b∧b<w'.heap.size) A c [List.replicate 9 Qbf]∧Below w.heap.size w w'):=Lh (fun w=>QdN 9 (by decide) w);have HW1:Hid (∀w,Calls Tryz.prog 37 #[.int .i64 1] w fun e w'=>∃A c,e=.returned (.agg #[.slice A 1 c,.slice none 0 0])∧Sl w' (fun b=>w.heap.size≤b∧b<w'.heap.size) A c [List.replicate 1 Qbf]∧Below w.heap.size w w'):=Lh (fun w=>QdN 1 (by decide) w);have HT:=Lh hT;clear hT;go_enter Tryz.func17,Tryz.ntmps17
 go_upto_region 2 with(first|(go_at_call 37;refine(HW5.out _).mono ?_;rintro e V1 ⟨At,ct,rfl,ht,hb⟩;have HA:=Lh (QeA (A:=none) (c:=0) (l2:=exA) 5 (by decide) 0 3 ex_oks.1.1 ex_oks.1.2.1 rfl ⟨HT.out.to hb,Sl.nil _ _ _ _ (by simp[maxLen])⟩ (ht.mono fun i hi _=>hi.2) ex_find.1.1 (by decide) (by decide) Qbm.1.1 (by decide));have HV1:=Lh hb;clear ht hb)|(go_at_call 36;refine HA.out.mono ?_;rintro e V2 ⟨Ab,cb,rfl,hm,-,hb⟩;have HM2:=Lh hm;have HV2:=Lh (HV1.out.trans (hb.mono HV1.out.size));clear hm hb HA)|fail)
 obtain⟨W2,hW⟩:∃W2,V2.alloc (.cells #[.int .i64 500,.int .i64 4,.slice Ab exA.length cb] 27)=W2:=⟨_,rfl⟩;have hl:=LB.fresh HM2.out;obtain⟨b1,hbk⟩:∃b1,V2.heap.size=b1:=⟨_,rfl⟩;obtain⟨A1,hAk⟩:∃A1,Ab=A1:=⟨_,rfl⟩;obtain⟨c1,hck⟩:∃c1,cb=c1:=⟨_,rfl⟩;rw[hW] at hl ⊢;rw[hbk,hAk,hck];have hb:Below W1.heap.size W1 W2:=HV2.out.trans (hl.2.mono HV2.out.size);have HL1:Hid (LB W2 b1 A1 c1 exA):=Lh (by rw[←hbk,←hAk,←hck];exact hl.1);have HB:=Lh (HB.out.trans (hb.mono HB.out.size));clear hl hb hW hbk hAk hck;refine QcE (fun a a' w'=>∃Ab2 cb2 At ct b2,a'=((((((((a.put (some 31) (.agg #[.int .i64 500,.int .i64 4,.slice A1 exA.length c1])).put (some 32) (.agg #[.slice At 1 ct,.slice none 0 0])).put (some 33) (.tuple #[.agg #[.int .i64 500,.int .i64 4,.slice Ab2 exB.length cb2],.int .i64 0])).put (some 30) (.tuple #[.agg #[.int .i64 500,.int .i64 4,.slice Ab2 exB.length cb2],.int .i64 0])).put (some 34) (.agg #[.int .i64 500,.int .i64 4,.slice Ab2 exB.length cb2])).put (some 35) (.int .i64 0)).put (some 3) (.pointer (some ⟨b2,0,none⟩))).put (some 4) (.int .i64 0))∧LB w' b2 Ab2 cb2 exB∧Below W2.heap.size W2 w') ?_ ?_
 ·refine Qao (fun w'=>w'.cell? ⟨b1,0,none⟩=some (.int .i64 500)∧w'.cell? ⟨b1,1,none⟩=some (.int .i64 4)∧w'.cell? ⟨b1,2,none⟩=some (.slice A1 exA.length c1)) (fun i=>decide (i<4)||decide (i=6)) (by kernel_rfl) ?_;obtain⟨V0,hV0⟩:∃V0,W2.drew=V0:=⟨_,rfl⟩;have hbd:Below W2.heap.size W2 V0:=(by rw[←hV0];exact bR.drew);have HB0:=Lh hbd;have HY0:=Lh (HL1.out.to hbd);rw[hV0];clear hV0 hbd;have hS0:V0.cell? ⟨b1,0,none⟩=some (.int .i64 500)∧V0.cell? ⟨b1,1,none⟩=some (.int .i64 4)∧V0.cell? ⟨b1,2,none⟩=some (.slice A1 exA.length c1):=⟨HY0.out.bx.cell 0 rfl,HY0.out.bx.cell 1 rfl,HY0.out.bx.cell 2 rfl⟩;have HS0:=Lh hS0;refine tE 0 ⟨some 31,Op.load 27 (.tmp 1),27,_,_,_⟩ ?_ rfl ?zq0 (hS0) ?zq1;(case zq0=>intro wS hSw;(have hq0:=hSw.1);(have hq1:=hSw.2.1);(have hq2:=hSw.2.2);clear hSw;go_simp;(try with_reducible rfl));(all_goals try go_frame);refine QaS (i:=1) (j:=6) (oi:=⟨some 32,Op.call {callee:=Callee.value (Operand.func 37),args:=#[Operand.const (Value.int IntKind.i64 4)],argTypes:=#[3]},50,_,_,_⟩) (oj:=⟨some 3,Op.alloc 27,0,_,_,_⟩) (by kernel_rfl) rfl rfl (by rfl) (by rfl) (fun K hK=>?_) (fun K hK=>?_)
  ·go_simp;go_at_call 37;refine(HW4.out V0).mono ?_;rintro e V1 ⟨At,ct,rfl,ht,hb⟩;go_simp;have HB1:=Lh (HB0.out.trans (hb.mono HB0.out.size));have HY1:=Lh (HY0.out.to hb);have hS1:V1.cell? ⟨b1,0,none⟩=some (.int .i64 500)∧V1.cell? ⟨b1,1,none⟩=some (.int .i64 4)∧V1.cell? ⟨b1,2,none⟩=some (.slice A1 exA.length c1):=⟨HY1.out.bx.cell 0 rfl,HY1.out.bx.cell 1 rfl,HY1.out.bx.cell 2 rfl⟩;have HT1:=Lh (ht.mono (S':=fun b=>b<V1.heap.size) fun i hi _=>hi.2);clear ht hb;refine hK _ _ (fun _=>?_) ?_
   ·exact hS1
   clear hK K;(try go_frame);refine QaS (i:=2) (j:=6) (oi:=⟨some 33,Op.call {callee:=Callee.value (Operand.func 36),args:=#[Operand.tmp 31,Operand.const (Value.int IntKind.i64 1),Operand.const (Value.int IntKind.i64 4),Operand.tmp 32],argTypes:=#[27,3,3,50]},81,_,_,_⟩) (oj:=⟨some 3,Op.alloc 27,0,_,_,_⟩) (by kernel_rfl) rfl rfl (by rfl) (by rfl) (fun K hK=>?_) (fun K hK=>?_)
   ·go_simp;go_at_call 36;refine(QeA (l2:=exB) 4 (by decide) 1 4 ex_oks.1.2.1 ex_oks.1.2.2.1 rfl HY1.out.sm HT1.out ex_find.1.2.1 (by decide) (by decide) Qbm.1.2 (by decide)).mono ?_;rintro e V2 ⟨Ab,cb,rfl,hm,hn,hb⟩;go_simp;have HB2:=Lh (HB1.out.trans (hb.mono HB1.out.size));have HY2:=Lh (HY1.out.to hb);have hS2:V2.cell? ⟨b1,0,none⟩=some (.int .i64 500)∧V2.cell? ⟨b1,1,none⟩=some (.int .i64 4)∧V2.cell? ⟨b1,2,none⟩=some (.slice A1 exA.length c1):=⟨HY2.out.bx.cell 0 rfl,HY2.out.bx.cell 1 rfl,HY2.out.bx.cell 2 rfl⟩;have HT2:=Lh (HT1.out.to hb);have HR2:=Lh hm;clear hm hn hb;refine hK _ _ (fun _=>?_) ?_
    ·exact hS2
    clear hK K;(try go_frame);refine tE 3 ⟨some 30,Op.move (.tmp 33),81,_,_,_⟩ ?_ rfl ?zq2 (hS2) ?zq3;(case zq2=>intro _ s;clear s;go_simp;(try with_reducible rfl));(all_goals try go_frame);refine tF 4 ⟨some 34,Op.extract (.tmp 30) 0,27,_,_,_⟩ ?_ rfl ?zq4 ?zq5;(case zq4=>intro wS;go_simp;(try with_reducible rfl));(all_goals try go_frame);refine tF 5 ⟨some 35,Op.extract (.tmp 30) 1,58,_,_,_⟩ ?_ rfl ?zq6 ?zq7;(case zq6=>intro wS;go_simp;(try with_reducible rfl));(all_goals try go_frame);refine tD 6 ⟨some 3,Op.alloc 27,0,_,_,_⟩ rfl fun K hK=>?_
    go_simp;obtain⟨V3,hV⟩:∃V3,(V2.alloc (.cells #[.int .i64 0,.int .i64 0,.slice none 0 0] 27))=V3:=⟨_,rfl⟩;have hb:Below V2.heap.size V2 V3:=(by rw[←hV];exact bR.alloc nL _);have hx:ABox V3 V2.heap.size 27 [.int .i64 0,.int .i64 0,.slice none 0 0]:=(by rw[←hV];exact heap_alloc_new V2 _);obtain⟨bn,hbn⟩:∃bn,V2.heap.size=bn:=⟨_,rfl⟩;have HBN:Hid (W2.heap.size≤bn):=Lh (by rw[←hbn];exact HB2.out.size);rw[hV,hbn];rw[hbn] at hx;have HN:=Lh ((HR2.out.s.keep (Kept.all hb) hb.size).mono (S':=fun i=>i≠bn) fun i (hi:i<V2.heap.size) _=>by omega);have HB3:=Lh (HB2.out.trans (hb.mono HB2.out.size));have HY3:=Lh (HY2.out.to hb);have hS3:V3.cell? ⟨b1,0,none⟩=some (.int .i64 500)∧V3.cell? ⟨b1,1,none⟩=some (.int .i64 4)∧V3.cell? ⟨b1,2,none⟩=some (.slice A1 exA.length c1):=⟨HY3.out.bx.cell 0 rfl,HY3.out.bx.cell 1 rfl,HY3.out.bx.cell 2 rfl⟩;have HT3:=Lh (HT2.out.to hb);have HR3:=Lh (HR2.out.to hb);have HX3:=Lh hx;clear hx hb hV hbn;refine hK _ _ (fun _=>?_) ?_
    ·exact hS3
    clear hK K;(try go_frame);refine tD 7 ⟨none,Op.store 27 (.tmp 3) (.tmp 34),0,_,_,_⟩ rfl fun K hK=>?_
    have z0:=HX3.out.cell 0 rfl;have z1:=HX3.out.cell 1 rfl;have z2:=HX3.out.cell 2 rfl;have y0:=HX3.out.fz 0;have y1:=HX3.out.fz 1;have y2:=HX3.out.fz 2;go_simp;clear z0 z1 z2 y0 y1 y2;refine hK _ _ (fun h=>absurd h (by decide)) ?_;clear hK K;(try simp only[Act.put]);refine tD 8 ⟨some 4,Op.assign (.tmp 35),58,_,_,_⟩ rfl fun K hK=>?_
    go_simp;refine hK _ _ (fun h=>absurd h (by decide)) ?_;clear hK K;(try go_frame);refine Qaf (by kernel_rfl) ?_ _;refine⟨rfl,Ab,cb,At,ct,bn,rfl,?_⟩;exact LB.into HL1.out.sm.t HB3.out HX3.out HBN.out HN.out
   ·go_simp;obtain⟨V2,hV⟩:∃V2,(V1.alloc (.cells #[.int .i64 0,.int .i64 0,.slice none 0 0] 27))=V2:=⟨_,rfl⟩;have hb:Below V1.heap.size V1 V2:=(by rw[←hV];exact bR.alloc nL _);have hx:ABox V2 V1.heap.size 27 [.int .i64 0,.int .i64 0,.slice none 0 0]:=(by rw[←hV];exact heap_alloc_new V1 _);obtain⟨bn,hbn⟩:∃bn,V1.heap.size=bn:=⟨_,rfl⟩;have HBN:Hid (W2.heap.size≤bn):=Lh (by rw[←hbn];exact HB1.out.size);rw[hV,hbn];rw[hbn] at hx;have HB2:=Lh (HB1.out.trans (hb.mono HB1.out.size));have HY2:=Lh (HY1.out.to hb);have hS2:V2.cell? ⟨b1,0,none⟩=some (.int .i64 500)∧V2.cell? ⟨b1,1,none⟩=some (.int .i64 4)∧V2.cell? ⟨b1,2,none⟩=some (.slice A1 exA.length c1):=⟨HY2.out.bx.cell 0 rfl,HY2.out.bx.cell 1 rfl,HY2.out.bx.cell 2 rfl⟩;have HT2:=Lh (HT1.out.to hb);have HX2:=Lh hx;clear hx hb hV hbn;refine hK _ _ (fun _=>?_) ?_
    ·exact hS2
    clear hK K;(try go_frame);refine tD 2 ⟨some 33,Op.call {callee:=Callee.value (Operand.func 36),args:=#[Operand.tmp 31,Operand.const (Value.int IntKind.i64 1),Operand.const (Value.int IntKind.i64 4),Operand.tmp 32],argTypes:=#[27,3,3,50]},81,_,_,_⟩ rfl fun K hK=>?_
    go_simp;go_at_call 36;refine(QeA (l2:=exB) 4 (by decide) 1 4 ex_oks.1.2.1 ex_oks.1.2.2.1 rfl HY2.out.sm HT2.out ex_find.1.2.1 (by decide) (by decide) Qbm.1.2 (by decide)).mono ?_;rintro e V3 ⟨Ab,cb,rfl,hm,hn,hb⟩;go_simp;have HB3:=Lh (HB2.out.trans (hb.mono HB2.out.size));have HY3:=Lh (HY2.out.to hb);have hS3:V3.cell? ⟨b1,0,none⟩=some (.int .i64 500)∧V3.cell? ⟨b1,1,none⟩=some (.int .i64 4)∧V3.cell? ⟨b1,2,none⟩=some (.slice A1 exA.length c1):=⟨HY3.out.bx.cell 0 rfl,HY3.out.bx.cell 1 rfl,HY3.out.bx.cell 2 rfl⟩;have HT3:=Lh (HT2.out.to hb);have HX3:=Lh (HX2.out.to hb);have HR3:=Lh hm;have HN:=Lh (hn.mono (S':=fun i=>i≠bn) fun i (hi:V2.heap.size≤i) _=>by have:=HX2.out.lt;omega);clear hm hn hb;refine hK _ _ (fun _=>?_) ?_
    ·exact hS3
    clear hK K;(try go_frame);refine tE 3 ⟨some 30,Op.move (.tmp 33),81,_,_,_⟩ ?_ rfl ?zq8 (hS3) ?zq9;(case zq8=>intro _ s;clear s;go_simp;(try with_reducible rfl));(all_goals try go_frame);refine tF 4 ⟨some 34,Op.extract (.tmp 30) 0,27,_,_,_⟩ ?_ rfl ?zq10 ?zq11;(case zq10=>intro wS;go_simp;(try with_reducible rfl));(all_goals try go_frame);refine tF 5 ⟨some 35,Op.extract (.tmp 30) 1,58,_,_,_⟩ ?_ rfl ?zq12 ?zq13;(case zq12=>intro wS;go_simp;(try with_reducible rfl));(all_goals try go_frame);refine tD 7 ⟨none,Op.store 27 (.tmp 3) (.tmp 34),0,_,_,_⟩ rfl fun K hK=>?_
    have z0:=HX3.out.cell 0 rfl;have z1:=HX3.out.cell 1 rfl;have z2:=HX3.out.cell 2 rfl;have y0:=HX3.out.fz 0;have y1:=HX3.out.fz 1;have y2:=HX3.out.fz 2;go_simp;clear z0 z1 z2 y0 y1 y2;refine hK _ _ (fun h=>absurd h (by decide)) ?_;clear hK K;(try simp only[Act.put]);refine tD 8 ⟨some 4,Op.assign (.tmp 35),58,_,_,_⟩ rfl fun K hK=>?_
    go_simp;refine hK _ _ (fun h=>absurd h (by decide)) ?_;clear hK K;(try go_frame);refine Qaf (by kernel_rfl) ?_ _;refine⟨rfl,Ab,cb,At,ct,bn,rfl,?_⟩;exact LB.into HL1.out.sm.t HB3.out HX3.out HBN.out HN.out
  ·go_simp;obtain⟨V1,hV⟩:∃V1,(V0.alloc (.cells #[.int .i64 0,.int .i64 0,.slice none 0 0] 27))=V1:=⟨_,rfl⟩;have hb:Below V0.heap.size V0 V1:=(by rw[←hV];exact bR.alloc nL _);have hx:ABox V1 V0.heap.size 27 [.int .i64 0,.int .i64 0,.slice none 0 0]:=(by rw[←hV];exact heap_alloc_new V0 _);obtain⟨bn,hbn⟩:∃bn,V0.heap.size=bn:=⟨_,rfl⟩;have HBN:Hid (W2.heap.size≤bn):=Lh (by rw[←hbn];exact HB0.out.size);rw[hV,hbn];rw[hbn] at hx;have HB1:=Lh (HB0.out.trans (hb.mono HB0.out.size));have HY1:=Lh (HY0.out.to hb);have hS1:V1.cell? ⟨b1,0,none⟩=some (.int .i64 500)∧V1.cell? ⟨b1,1,none⟩=some (.int .i64 4)∧V1.cell? ⟨b1,2,none⟩=some (.slice A1 exA.length c1):=⟨HY1.out.bx.cell 0 rfl,HY1.out.bx.cell 1 rfl,HY1.out.bx.cell 2 rfl⟩;have HX1:=Lh hx;clear hx hb hV hbn;refine hK _ _ (fun _=>?_) ?_
   ·exact hS1
   clear hK K;(try go_frame);refine tD 1 ⟨some 32,Op.call {callee:=Callee.value (Operand.func 37),args:=#[Operand.const (Value.int IntKind.i64 4)],argTypes:=#[3]},50,_,_,_⟩ rfl fun K hK=>?_
   go_simp;go_at_call 37;refine(HW4.out V1).mono ?_;rintro e V2 ⟨At,ct,rfl,ht,hb⟩;go_simp;have HB2:=Lh (HB1.out.trans (hb.mono HB1.out.size));have HY2:=Lh (HY1.out.to hb);have hS2:V2.cell? ⟨b1,0,none⟩=some (.int .i64 500)∧V2.cell? ⟨b1,1,none⟩=some (.int .i64 4)∧V2.cell? ⟨b1,2,none⟩=some (.slice A1 exA.length c1):=⟨HY2.out.bx.cell 0 rfl,HY2.out.bx.cell 1 rfl,HY2.out.bx.cell 2 rfl⟩;have HX2:=Lh (HX1.out.to hb);have HT2:=Lh (ht.mono (S':=fun b=>b<V2.heap.size) fun i hi _=>hi.2);clear ht hb;refine hK _ _ (fun _=>?_) ?_
   ·exact hS2
   clear hK K;(try go_frame);refine tD 2 ⟨some 33,Op.call {callee:=Callee.value (Operand.func 36),args:=#[Operand.tmp 31,Operand.const (Value.int IntKind.i64 1),Operand.const (Value.int IntKind.i64 4),Operand.tmp 32],argTypes:=#[27,3,3,50]},81,_,_,_⟩ rfl fun K hK=>?_
   go_simp;go_at_call 36;refine(QeA (l2:=exB) 4 (by decide) 1 4 ex_oks.1.2.1 ex_oks.1.2.2.1 rfl HY2.out.sm HT2.out ex_find.1.2.1 (by decide) (by decide) Qbm.1.2 (by decide)).mono ?_;rintro e V3 ⟨Ab,cb,rfl,hm,hn,hb⟩;go_simp;have HB3:=Lh (HB2.out.trans (hb.mono HB2.out.size));have HY3:=Lh (HY2.out.to hb);have hS3:V3.cell? ⟨b1,0,none⟩=some (.int .i64 500)∧V3.cell? ⟨b1,1,none⟩=some (.int .i64 4)∧V3.cell? ⟨b1,2,none⟩=some (.slice A1 exA.length c1):=⟨HY3.out.bx.cell 0 rfl,HY3.out.bx.cell 1 rfl,HY3.out.bx.cell 2 rfl⟩;have HT3:=Lh (HT2.out.to hb);have HX3:=Lh (HX2.out.to hb);have HR3:=Lh hm;have HN:=Lh (hn.mono (S':=fun i=>i≠bn) fun i (hi:V2.heap.size≤i) _=>by have:=HX2.out.lt;omega);clear hm hn hb;refine hK _ _ (fun _=>?_) ?_
   ·exact hS3
   clear hK K;(try go_frame);refine tE 3 ⟨some 30,Op.move (.tmp 33),81,_,_,_⟩ ?_ rfl ?zq14 (hS3) ?zq15;(case zq14=>intro _ s;clear s;go_simp;(try with_reducible rfl));(all_goals try go_frame);refine tF 4 ⟨some 34,Op.extract (.tmp 30) 0,27,_,_,_⟩ ?_ rfl ?zq16 ?zq17;(case zq16=>intro wS;go_simp;(try with_reducible rfl));(all_goals try go_frame);refine tF 5 ⟨some 35,Op.extract (.tmp 30) 1,58,_,_,_⟩ ?_ rfl ?zq18 ?zq19;(case zq18=>intro wS;go_simp;(try with_reducible rfl));(all_goals try go_frame);refine tD 7 ⟨none,Op.store 27 (.tmp 3) (.tmp 34),0,_,_,_⟩ rfl fun K hK=>?_
   have z0:=HX3.out.cell 0 rfl;have z1:=HX3.out.cell 1 rfl;have z2:=HX3.out.cell 2 rfl;have y0:=HX3.out.fz 0;have y1:=HX3.out.fz 1;have y2:=HX3.out.fz 2;go_simp;clear z0 z1 z2 y0 y1 y2;refine hK _ _ (fun h=>absurd h (by decide)) ?_;clear hK K;(try simp only[Act.put]);refine tD 8 ⟨some 4,Op.assign (.tmp 35),58,_,_,_⟩ rfl fun K hK=>?_
   go_simp;refine hK _ _ (fun h=>absurd h (by decide)) ?_;clear hK K;(try go_frame);refine Qaf (by kernel_rfl) ?_ _;refine⟨rfl,Ab,cb,At,ct,bn,rfl,?_⟩;exact LB.into HL1.out.sm.t HB3.out HX3.out HBN.out HN.out
 rintro _ W3 ⟨A2,c2,At,ct,b2,rfl,hl,hb⟩;have HL2:=Lh hl;go_frame;have HL1:=Lh (HL1.out.to hb);have HB:=Lh (HB.out.trans (hb.mono HB.out.size));clear hl hb;have q0:=HL2.out.bx.cell 0 rfl;have q1:=HL2.out.bx.cell 1 rfl;have q2:=HL2.out.bx.cell 2 rfl
 go_upto_region 4 with(first|(go_at_call 28;refine(ex_freeze (l2:=exF) ex_oks.1.2.2.1 rfl HL2.out.sm).mono ?_;rintro e V1 ⟨Af,cf,rfl,hm,-,hb⟩;have HM1:=Lh hm;have HV1:=Lh hb;clear hm hb q0 q1 q2)|(go_at_call 37;refine(HW9.out _).mono ?_;rintro e V2 ⟨At,ct,rfl,ht,hb⟩;have HC:=Lh (QcD (l2:=exC) 9 (by decide) 0 7 0 (frz ⟨0,false,[3],[Qb7 5]⟩) ex_oks.1.2.2.2 ex_oks.2.1.1 rfl (HM1.out.to hb) (ht.mono fun i hi _=>hi.2) ex_find.1.2.2.1 (by decide) rfl (by decide) (by decide) Qbm.2.1 (by decide));have HV2:=Lh (HV1.out.trans (hb.mono HV1.out.size));clear ht hb)|(go_at_call 38;refine HC.out.mono ?_;rintro e V3 ⟨Ab,cb,rfl,hm,-,hb⟩;have HM3:=Lh hm;have HV3:=Lh (HV2.out.trans (hb.mono HV2.out.size));clear hm hb HC)|fail)
 obtain⟨W4,hW⟩:∃W4,V3.alloc (.cells #[.int .i64 500,.int .i64 4,.slice Ab exC.length cb] 27)=W4:=⟨_,rfl⟩;have hl:=LB.fresh HM3.out;obtain⟨b3,hbk⟩:∃b3,V3.heap.size=b3:=⟨_,rfl⟩;obtain⟨A3,hAk⟩:∃A3,Ab=A3:=⟨_,rfl⟩;obtain⟨c3,hck⟩:∃c3,cb=c3:=⟨_,rfl⟩;rw[hW] at hl ⊢;rw[hbk,hAk,hck];have hb:Below W3.heap.size W3 W4:=HV3.out.trans (hl.2.mono HV3.out.size);have HL3:Hid (LB W4 b3 A3 c3 exC):=Lh (by rw[←hbk,←hAk,←hck];exact hl.1);have HL1:=Lh (HL1.out.to hb);have HL2:=Lh (HL2.out.to hb);have HB:=Lh (HB.out.trans (hb.mono HB.out.size));clear hl hb hW hbk hAk hck;refine QcE (fun a a' w'=>∃Ab4 cb4 At ct b4,a'=((((((((a.put (some 44) (.agg #[.int .i64 500,.int .i64 4,.slice A3 exC.length c3])).put (some 45) (.agg #[.slice At 1 ct,.slice none 0 0])).put (some 46) (.tuple #[.agg #[.int .i64 500,.int .i64 4,.slice Ab4 exD.length cb4],.int .i64 0])).put (some 43) (.tuple #[.agg #[.int .i64 500,.int .i64 4,.slice Ab4 exD.length cb4],.int .i64 0])).put (some 47) (.agg #[.int .i64 500,.int .i64 4,.slice Ab4 exD.length cb4])).put (some 48) (.int .i64 0)).put (some 7) (.pointer (some ⟨b4,0,none⟩))).put (some 8) (.int .i64 0))∧LB w' b4 Ab4 cb4 exD∧Below W4.heap.size W4 w') ?_ ?_
 ·refine Qao (fun w'=>w'.cell? ⟨b3,0,none⟩=some (.int .i64 500)∧w'.cell? ⟨b3,1,none⟩=some (.int .i64 4)∧w'.cell? ⟨b3,2,none⟩=some (.slice A3 exC.length c3)) (fun i=>decide (i<4)||decide (i=6)) (by kernel_rfl) ?_;obtain⟨V0,hV0⟩:∃V0,W4.drew=V0:=⟨_,rfl⟩;have hbd:Below W4.heap.size W4 V0:=(by rw[←hV0];exact bR.drew);have HB0:=Lh hbd;have HY0:=Lh (HL3.out.to hbd);rw[hV0];clear hV0 hbd;have hS0:V0.cell? ⟨b3,0,none⟩=some (.int .i64 500)∧V0.cell? ⟨b3,1,none⟩=some (.int .i64 4)∧V0.cell? ⟨b3,2,none⟩=some (.slice A3 exC.length c3):=⟨HY0.out.bx.cell 0 rfl,HY0.out.bx.cell 1 rfl,HY0.out.bx.cell 2 rfl⟩;have HS0:=Lh hS0;refine tE 0 ⟨some 44,Op.load 27 (.tmp 5),27,_,_,_⟩ ?_ rfl ?zq20 (hS0) ?zq21;(case zq20=>intro wS hSw;(have hq0:=hSw.1);(have hq1:=hSw.2.1);(have hq2:=hSw.2.2);clear hSw;go_simp;(try with_reducible rfl));(all_goals try go_frame);refine QaS (i:=1) (j:=6) (oi:=⟨some 45,Op.call {callee:=Callee.value (Operand.func 37),args:=#[Operand.const (Value.int IntKind.i64 1)],argTypes:=#[3]},50,_,_,_⟩) (oj:=⟨some 7,Op.alloc 27,0,_,_,_⟩) (by kernel_rfl) rfl rfl (by rfl) (by rfl) (fun K hK=>?_) (fun K hK=>?_)
  ·go_simp;go_at_call 37;refine(HW1.out V0).mono ?_;rintro e V1 ⟨At,ct,rfl,ht,hb⟩;go_simp;have HB1:=Lh (HB0.out.trans (hb.mono HB0.out.size));have HY1:=Lh (HY0.out.to hb);have hS1:V1.cell? ⟨b3,0,none⟩=some (.int .i64 500)∧V1.cell? ⟨b3,1,none⟩=some (.int .i64 4)∧V1.cell? ⟨b3,2,none⟩=some (.slice A3 exC.length c3):=⟨HY1.out.bx.cell 0 rfl,HY1.out.bx.cell 1 rfl,HY1.out.bx.cell 2 rfl⟩;have HT1:=Lh (ht.mono (S':=fun b=>b<V1.heap.size) fun i hi _=>hi.2);clear ht hb;refine hK _ _ (fun _=>?_) ?_
   ·exact hS1
   clear hK K;(try go_frame);refine QaS (i:=2) (j:=6) (oi:=⟨some 46,Op.call {callee:=Callee.value (Operand.func 36),args:=#[Operand.tmp 44,Operand.const (Value.int IntKind.i64 2),Operand.const (Value.int IntKind.i64 8),Operand.tmp 45],argTypes:=#[27,3,3,50]},81,_,_,_⟩) (oj:=⟨some 7,Op.alloc 27,0,_,_,_⟩) (by kernel_rfl) rfl rfl (by rfl) (by rfl) (fun K hK=>?_) (fun K hK=>?_)
   ·go_simp;go_at_call 36;refine(QeA (l2:=exD) 1 (by decide) 2 8 ex_oks.2.1.1 ex_oks.2.1.2 rfl HY1.out.sm HT1.out ex_find.1.2.2.2 (by decide) (by decide) Qbm.2.2 (by decide)).mono ?_;rintro e V2 ⟨Ab,cb,rfl,hm,hn,hb⟩;go_simp;have HB2:=Lh (HB1.out.trans (hb.mono HB1.out.size));have HY2:=Lh (HY1.out.to hb);have hS2:V2.cell? ⟨b3,0,none⟩=some (.int .i64 500)∧V2.cell? ⟨b3,1,none⟩=some (.int .i64 4)∧V2.cell? ⟨b3,2,none⟩=some (.slice A3 exC.length c3):=⟨HY2.out.bx.cell 0 rfl,HY2.out.bx.cell 1 rfl,HY2.out.bx.cell 2 rfl⟩;have HT2:=Lh (HT1.out.to hb);have HR2:=Lh hm;clear hm hn hb;refine hK _ _ (fun _=>?_) ?_
    ·exact hS2
    clear hK K;(try go_frame);refine tE 3 ⟨some 43,Op.move (.tmp 46),81,_,_,_⟩ ?_ rfl ?zq22 (hS2) ?zq23;(case zq22=>intro _ s;clear s;go_simp;(try with_reducible rfl));(all_goals try go_frame);refine tF 4 ⟨some 47,Op.extract (.tmp 43) 0,27,_,_,_⟩ ?_ rfl ?zq24 ?zq25;(case zq24=>intro wS;go_simp;(try with_reducible rfl));(all_goals try go_frame);refine tF 5 ⟨some 48,Op.extract (.tmp 43) 1,58,_,_,_⟩ ?_ rfl ?zq26 ?zq27;(case zq26=>intro wS;go_simp;(try with_reducible rfl));(all_goals try go_frame);refine tD 6 ⟨some 7,Op.alloc 27,0,_,_,_⟩ rfl fun K hK=>?_
    go_simp;obtain⟨V3,hV⟩:∃V3,(V2.alloc (.cells #[.int .i64 0,.int .i64 0,.slice none 0 0] 27))=V3:=⟨_,rfl⟩;have hb:Below V2.heap.size V2 V3:=(by rw[←hV];exact bR.alloc nL _);have hx:ABox V3 V2.heap.size 27 [.int .i64 0,.int .i64 0,.slice none 0 0]:=(by rw[←hV];exact heap_alloc_new V2 _);obtain⟨bn,hbn⟩:∃bn,V2.heap.size=bn:=⟨_,rfl⟩;have HBN:Hid (W4.heap.size≤bn):=Lh (by rw[←hbn];exact HB2.out.size);rw[hV,hbn];rw[hbn] at hx;have HN:=Lh ((HR2.out.s.keep (Kept.all hb) hb.size).mono (S':=fun i=>i≠bn) fun i (hi:i<V2.heap.size) _=>by omega);have HB3:=Lh (HB2.out.trans (hb.mono HB2.out.size));have HY3:=Lh (HY2.out.to hb);have hS3:V3.cell? ⟨b3,0,none⟩=some (.int .i64 500)∧V3.cell? ⟨b3,1,none⟩=some (.int .i64 4)∧V3.cell? ⟨b3,2,none⟩=some (.slice A3 exC.length c3):=⟨HY3.out.bx.cell 0 rfl,HY3.out.bx.cell 1 rfl,HY3.out.bx.cell 2 rfl⟩;have HT3:=Lh (HT2.out.to hb);have HR3:=Lh (HR2.out.to hb);have HX3:=Lh hx;clear hx hb hV hbn;refine hK _ _ (fun _=>?_) ?_
    ·exact hS3
    clear hK K;(try go_frame);refine tD 7 ⟨none,Op.store 27 (.tmp 7) (.tmp 47),0,_,_,_⟩ rfl fun K hK=>?_
    have z0:=HX3.out.cell 0 rfl;have z1:=HX3.out.cell 1 rfl;have z2:=HX3.out.cell 2 rfl;have y0:=HX3.out.fz 0;have y1:=HX3.out.fz 1;have y2:=HX3.out.fz 2;go_simp;clear z0 z1 z2 y0 y1 y2;refine hK _ _ (fun h=>absurd h (by decide)) ?_;clear hK K;(try simp only[Act.put]);refine tD 8 ⟨some 8,Op.assign (.tmp 48),58,_,_,_⟩ rfl fun K hK=>?_
    go_simp;refine hK _ _ (fun h=>absurd h (by decide)) ?_;clear hK K;(try go_frame);refine Qaf (by kernel_rfl) ?_ _;refine⟨rfl,Ab,cb,At,ct,bn,rfl,?_⟩;exact LB.into HL3.out.sm.t HB3.out HX3.out HBN.out HN.out
   ·go_simp;obtain⟨V2,hV⟩:∃V2,(V1.alloc (.cells #[.int .i64 0,.int .i64 0,.slice none 0 0] 27))=V2:=⟨_,rfl⟩;have hb:Below V1.heap.size V1 V2:=(by rw[←hV];exact bR.alloc nL _);have hx:ABox V2 V1.heap.size 27 [.int .i64 0,.int .i64 0,.slice none 0 0]:=(by rw[←hV];exact heap_alloc_new V1 _);obtain⟨bn,hbn⟩:∃bn,V1.heap.size=bn:=⟨_,rfl⟩;have HBN:Hid (W4.heap.size≤bn):=Lh (by rw[←hbn];exact HB1.out.size);rw[hV,hbn];rw[hbn] at hx;have HB2:=Lh (HB1.out.trans (hb.mono HB1.out.size));have HY2:=Lh (HY1.out.to hb);have hS2:V2.cell? ⟨b3,0,none⟩=some (.int .i64 500)∧V2.cell? ⟨b3,1,none⟩=some (.int .i64 4)∧V2.cell? ⟨b3,2,none⟩=some (.slice A3 exC.length c3):=⟨HY2.out.bx.cell 0 rfl,HY2.out.bx.cell 1 rfl,HY2.out.bx.cell 2 rfl⟩;have HT2:=Lh (HT1.out.to hb);have HX2:=Lh hx;clear hx hb hV hbn;refine hK _ _ (fun _=>?_) ?_
    ·exact hS2
    clear hK K;(try go_frame);refine tD 2 ⟨some 46,Op.call {callee:=Callee.value (Operand.func 36),args:=#[Operand.tmp 44,Operand.const (Value.int IntKind.i64 2),Operand.const (Value.int IntKind.i64 8),Operand.tmp 45],argTypes:=#[27,3,3,50]},81,_,_,_⟩ rfl fun K hK=>?_
    go_simp;go_at_call 36;refine(QeA (l2:=exD) 1 (by decide) 2 8 ex_oks.2.1.1 ex_oks.2.1.2 rfl HY2.out.sm HT2.out ex_find.1.2.2.2 (by decide) (by decide) Qbm.2.2 (by decide)).mono ?_;rintro e V3 ⟨Ab,cb,rfl,hm,hn,hb⟩;go_simp;have HB3:=Lh (HB2.out.trans (hb.mono HB2.out.size));have HY3:=Lh (HY2.out.to hb);have hS3:V3.cell? ⟨b3,0,none⟩=some (.int .i64 500)∧V3.cell? ⟨b3,1,none⟩=some (.int .i64 4)∧V3.cell? ⟨b3,2,none⟩=some (.slice A3 exC.length c3):=⟨HY3.out.bx.cell 0 rfl,HY3.out.bx.cell 1 rfl,HY3.out.bx.cell 2 rfl⟩;have HT3:=Lh (HT2.out.to hb);have HX3:=Lh (HX2.out.to hb);have HR3:=Lh hm;have HN:=Lh (hn.mono (S':=fun i=>i≠bn) fun i (hi:V2.heap.size≤i) _=>by have:=HX2.out.lt;omega);clear hm hn hb;refine hK _ _ (fun _=>?_) ?_
    ·exact hS3
    clear hK K;(try go_frame);refine tE 3 ⟨some 43,Op.move (.tmp 46),81,_,_,_⟩ ?_ rfl ?zq28 (hS3) ?zq29;(case zq28=>intro _ s;clear s;go_simp;(try with_reducible rfl));(all_goals try go_frame);refine tF 4 ⟨some 47,Op.extract (.tmp 43) 0,27,_,_,_⟩ ?_ rfl ?zq30 ?zq31;(case zq30=>intro wS;go_simp;(try with_reducible rfl));(all_goals try go_frame);refine tF 5 ⟨some 48,Op.extract (.tmp 43) 1,58,_,_,_⟩ ?_ rfl ?zq32 ?zq33;(case zq32=>intro wS;go_simp;(try with_reducible rfl));(all_goals try go_frame);refine tD 7 ⟨none,Op.store 27 (.tmp 7) (.tmp 47),0,_,_,_⟩ rfl fun K hK=>?_
    have z0:=HX3.out.cell 0 rfl;have z1:=HX3.out.cell 1 rfl;have z2:=HX3.out.cell 2 rfl;have y0:=HX3.out.fz 0;have y1:=HX3.out.fz 1;have y2:=HX3.out.fz 2;go_simp;clear z0 z1 z2 y0 y1 y2;refine hK _ _ (fun h=>absurd h (by decide)) ?_;clear hK K;(try simp only[Act.put]);refine tD 8 ⟨some 8,Op.assign (.tmp 48),58,_,_,_⟩ rfl fun K hK=>?_
    go_simp;refine hK _ _ (fun h=>absurd h (by decide)) ?_;clear hK K;(try go_frame);refine Qaf (by kernel_rfl) ?_ _;refine⟨rfl,Ab,cb,At,ct,bn,rfl,?_⟩;exact LB.into HL3.out.sm.t HB3.out HX3.out HBN.out HN.out
  ·go_simp;obtain⟨V1,hV⟩:∃V1,(V0.alloc (.cells #[.int .i64 0,.int .i64 0,.slice none 0 0] 27))=V1:=⟨_,rfl⟩;have hb:Below V0.heap.size V0 V1:=(by rw[←hV];exact bR.alloc nL _);have hx:ABox V1 V0.heap.size 27 [.int .i64 0,.int .i64 0,.slice none 0 0]:=(by rw[←hV];exact heap_alloc_new V0 _);obtain⟨bn,hbn⟩:∃bn,V0.heap.size=bn:=⟨_,rfl⟩;have HBN:Hid (W4.heap.size≤bn):=Lh (by rw[←hbn];exact HB0.out.size);rw[hV,hbn];rw[hbn] at hx;have HB1:=Lh (HB0.out.trans (hb.mono HB0.out.size));have HY1:=Lh (HY0.out.to hb);have hS1:V1.cell? ⟨b3,0,none⟩=some (.int .i64 500)∧V1.cell? ⟨b3,1,none⟩=some (.int .i64 4)∧V1.cell? ⟨b3,2,none⟩=some (.slice A3 exC.length c3):=⟨HY1.out.bx.cell 0 rfl,HY1.out.bx.cell 1 rfl,HY1.out.bx.cell 2 rfl⟩;have HX1:=Lh hx;clear hx hb hV hbn;refine hK _ _ (fun _=>?_) ?_
   ·exact hS1
   clear hK K;(try go_frame);refine tD 1 ⟨some 45,Op.call {callee:=Callee.value (Operand.func 37),args:=#[Operand.const (Value.int IntKind.i64 1)],argTypes:=#[3]},50,_,_,_⟩ rfl fun K hK=>?_
   go_simp;go_at_call 37;refine(HW1.out V1).mono ?_;rintro e V2 ⟨At,ct,rfl,ht,hb⟩;go_simp;have HB2:=Lh (HB1.out.trans (hb.mono HB1.out.size));have HY2:=Lh (HY1.out.to hb);have hS2:V2.cell? ⟨b3,0,none⟩=some (.int .i64 500)∧V2.cell? ⟨b3,1,none⟩=some (.int .i64 4)∧V2.cell? ⟨b3,2,none⟩=some (.slice A3 exC.length c3):=⟨HY2.out.bx.cell 0 rfl,HY2.out.bx.cell 1 rfl,HY2.out.bx.cell 2 rfl⟩;have HX2:=Lh (HX1.out.to hb);have HT2:=Lh (ht.mono (S':=fun b=>b<V2.heap.size) fun i hi _=>hi.2);clear ht hb;refine hK _ _ (fun _=>?_) ?_
   ·exact hS2
   clear hK K;(try go_frame);refine tD 2 ⟨some 46,Op.call {callee:=Callee.value (Operand.func 36),args:=#[Operand.tmp 44,Operand.const (Value.int IntKind.i64 2),Operand.const (Value.int IntKind.i64 8),Operand.tmp 45],argTypes:=#[27,3,3,50]},81,_,_,_⟩ rfl fun K hK=>?_
   go_simp;go_at_call 36;refine(QeA (l2:=exD) 1 (by decide) 2 8 ex_oks.2.1.1 ex_oks.2.1.2 rfl HY2.out.sm HT2.out ex_find.1.2.2.2 (by decide) (by decide) Qbm.2.2 (by decide)).mono ?_;rintro e V3 ⟨Ab,cb,rfl,hm,hn,hb⟩;go_simp;have HB3:=Lh (HB2.out.trans (hb.mono HB2.out.size));have HY3:=Lh (HY2.out.to hb);have hS3:V3.cell? ⟨b3,0,none⟩=some (.int .i64 500)∧V3.cell? ⟨b3,1,none⟩=some (.int .i64 4)∧V3.cell? ⟨b3,2,none⟩=some (.slice A3 exC.length c3):=⟨HY3.out.bx.cell 0 rfl,HY3.out.bx.cell 1 rfl,HY3.out.bx.cell 2 rfl⟩;have HT3:=Lh (HT2.out.to hb);have HX3:=Lh (HX2.out.to hb);have HR3:=Lh hm;have HN:=Lh (hn.mono (S':=fun i=>i≠bn) fun i (hi:V2.heap.size≤i) _=>by have:=HX2.out.lt;omega);clear hm hn hb;refine hK _ _ (fun _=>?_) ?_
   ·exact hS3
   clear hK K;(try go_frame);refine tE 3 ⟨some 43,Op.move (.tmp 46),81,_,_,_⟩ ?_ rfl ?zq34 (hS3) ?zq35;(case zq34=>intro _ s;clear s;go_simp;(try with_reducible rfl));(all_goals try go_frame);refine tF 4 ⟨some 47,Op.extract (.tmp 43) 0,27,_,_,_⟩ ?_ rfl ?zq36 ?zq37;(case zq36=>intro wS;go_simp;(try with_reducible rfl));(all_goals try go_frame);refine tF 5 ⟨some 48,Op.extract (.tmp 43) 1,58,_,_,_⟩ ?_ rfl ?zq38 ?zq39;(case zq38=>intro wS;go_simp;(try with_reducible rfl));(all_goals try go_frame);refine tD 7 ⟨none,Op.store 27 (.tmp 7) (.tmp 47),0,_,_,_⟩ rfl fun K hK=>?_
   have z0:=HX3.out.cell 0 rfl;have z1:=HX3.out.cell 1 rfl;have z2:=HX3.out.cell 2 rfl;have y0:=HX3.out.fz 0;have y1:=HX3.out.fz 1;have y2:=HX3.out.fz 2;go_simp;clear z0 z1 z2 y0 y1 y2;refine hK _ _ (fun h=>absurd h (by decide)) ?_;clear hK K;(try simp only[Act.put]);refine tD 8 ⟨some 8,Op.assign (.tmp 48),58,_,_,_⟩ rfl fun K hK=>?_
   go_simp;refine hK _ _ (fun h=>absurd h (by decide)) ?_;clear hK K;(try go_frame);refine Qaf (by kernel_rfl) ?_ _;refine⟨rfl,Ab,cb,At,ct,bn,rfl,?_⟩;exact LB.into HL3.out.sm.t HB3.out HX3.out HBN.out HN.out
 rintro _ W5 ⟨A4,c4,At,ct,b4,rfl,hl,hb⟩;have HL4:=Lh hl;go_frame;have HL1:=Lh (HL1.out.to hb);have HL2:=Lh (HL2.out.to hb);have HL3:=Lh (HL3.out.to hb);have HB:=Lh (HB.out.trans (hb.mono HB.out.size));clear hl hb;go_upto_region 5 with(fail);refine QcE (fun a a' w'=>∃Ab5 cb5 At ct b5,a'=((((((((a.put (some 50) (.agg #[.int .i64 500,.int .i64 4,.slice A4 exD.length c4])).put (some 51) (.agg #[.slice At 1 ct,.slice none 0 0])).put (some 52) (.tuple #[.agg #[.int .i64 500,.int .i64 4,.slice Ab5 exI.length cb5],.int .i64 0])).put (some 49) (.tuple #[.agg #[.int .i64 500,.int .i64 4,.slice Ab5 exI.length cb5],.int .i64 0])).put (some 53) (.agg #[.int .i64 500,.int .i64 4,.slice Ab5 exI.length cb5])).put (some 54) (.int .i64 0)).put (some 9) (.pointer (some ⟨b5,0,none⟩))).put (some 10) (.int .i64 0))∧LB w' b5 Ab5 cb5 exI∧Below W5.heap.size W5 w') ?_ ?_
 ·refine Qao (fun w'=>w'.cell? ⟨b4,0,none⟩=some (.int .i64 500)∧w'.cell? ⟨b4,1,none⟩=some (.int .i64 4)∧w'.cell? ⟨b4,2,none⟩=some (.slice A4 exD.length c4)) (fun i=>decide (i<4)||decide (i=6)) (by kernel_rfl) ?_;obtain⟨V0,hV0⟩:∃V0,W5.drew=V0:=⟨_,rfl⟩;have hbd:Below W5.heap.size W5 V0:=(by rw[←hV0];exact bR.drew);have HB0:=Lh hbd;have HY0:=Lh (HL4.out.to hbd);rw[hV0];clear hV0 hbd;have hS0:V0.cell? ⟨b4,0,none⟩=some (.int .i64 500)∧V0.cell? ⟨b4,1,none⟩=some (.int .i64 4)∧V0.cell? ⟨b4,2,none⟩=some (.slice A4 exD.length c4):=⟨HY0.out.bx.cell 0 rfl,HY0.out.bx.cell 1 rfl,HY0.out.bx.cell 2 rfl⟩;have HS0:=Lh hS0;refine tE 0 ⟨some 50,Op.load 27 (.tmp 7),27,_,_,_⟩ ?_ rfl ?zq40 (hS0) ?zq41;(case zq40=>intro wS hSw;(have hq0:=hSw.1);(have hq1:=hSw.2.1);(have hq2:=hSw.2.2);clear hSw;go_simp;(try with_reducible rfl));(all_goals try go_frame);refine QaS (i:=1) (j:=6) (oi:=⟨some 51,Op.call {callee:=Callee.value (Operand.func 37),args:=#[Operand.const (Value.int IntKind.i64 5)],argTypes:=#[3]},50,_,_,_⟩) (oj:=⟨some 9,Op.alloc 27,0,_,_,_⟩) (by kernel_rfl) rfl rfl (by rfl) (by rfl) (fun K hK=>?_) (fun K hK=>?_)
  ·go_simp;go_at_call 37;refine(HW5.out V0).mono ?_;rintro e V1 ⟨At,ct,rfl,ht,hb⟩;go_simp;have HB1:=Lh (HB0.out.trans (hb.mono HB0.out.size));have HY1:=Lh (HY0.out.to hb);have hS1:V1.cell? ⟨b4,0,none⟩=some (.int .i64 500)∧V1.cell? ⟨b4,1,none⟩=some (.int .i64 4)∧V1.cell? ⟨b4,2,none⟩=some (.slice A4 exD.length c4):=⟨HY1.out.bx.cell 0 rfl,HY1.out.bx.cell 1 rfl,HY1.out.bx.cell 2 rfl⟩;have HT1:=Lh (ht.mono (S':=fun b=>b<V1.heap.size) fun i hi _=>hi.2);clear ht hb;refine hK _ _ (fun _=>?_) ?_
   ·exact hS1
   clear hK K;(try go_frame);refine QaS (i:=2) (j:=6) (oi:=⟨some 52,Op.call {callee:=Callee.value (Operand.func 38),args:=#[Operand.tmp 50,Operand.const (Value.int IntKind.i64 2),Operand.const (Value.int IntKind.i64 9),Operand.tmp 51],argTypes:=#[27,3,3,50]},81,_,_,_⟩) (oj:=⟨some 9,Op.alloc 27,0,_,_,_⟩) (by kernel_rfl) rfl rfl (by rfl) (by rfl) (fun K hK=>?_) (fun K hK=>?_)
   ·go_simp;go_at_call 38;refine(QcD (l2:=exI) 5 (by decide) 2 9 2 ⟨2,false,[8],[Qb7 1]⟩ ex_oks.2.1.2 ex_oks.2.2.1.1 rfl HY1.out.sm HT1.out ex_find.2.1 (by decide) rfl (by decide) (by decide) Qbm.1.1 (by decide)).mono ?_;rintro e V2 ⟨Ab,cb,rfl,hm,hn,hb⟩;go_simp;have HB2:=Lh (HB1.out.trans (hb.mono HB1.out.size));have HY2:=Lh (HY1.out.to hb);have hS2:V2.cell? ⟨b4,0,none⟩=some (.int .i64 500)∧V2.cell? ⟨b4,1,none⟩=some (.int .i64 4)∧V2.cell? ⟨b4,2,none⟩=some (.slice A4 exD.length c4):=⟨HY2.out.bx.cell 0 rfl,HY2.out.bx.cell 1 rfl,HY2.out.bx.cell 2 rfl⟩;have HT2:=Lh (HT1.out.to hb);have HR2:=Lh hm;clear hm hn hb;refine hK _ _ (fun _=>?_) ?_
    ·exact hS2
    clear hK K;(try go_frame);refine tE 3 ⟨some 49,Op.move (.tmp 52),81,_,_,_⟩ ?_ rfl ?zq42 (hS2) ?zq43;(case zq42=>intro _ s;clear s;go_simp;(try with_reducible rfl));(all_goals try go_frame);refine tF 4 ⟨some 53,Op.extract (.tmp 49) 0,27,_,_,_⟩ ?_ rfl ?zq44 ?zq45;(case zq44=>intro wS;go_simp;(try with_reducible rfl));(all_goals try go_frame);refine tF 5 ⟨some 54,Op.extract (.tmp 49) 1,58,_,_,_⟩ ?_ rfl ?zq46 ?zq47;(case zq46=>intro wS;go_simp;(try with_reducible rfl));(all_goals try go_frame);refine tD 6 ⟨some 9,Op.alloc 27,0,_,_,_⟩ rfl fun K hK=>?_
    go_simp;obtain⟨V3,hV⟩:∃V3,(V2.alloc (.cells #[.int .i64 0,.int .i64 0,.slice none 0 0] 27))=V3:=⟨_,rfl⟩;have hb:Below V2.heap.size V2 V3:=(by rw[←hV];exact bR.alloc nL _);have hx:ABox V3 V2.heap.size 27 [.int .i64 0,.int .i64 0,.slice none 0 0]:=(by rw[←hV];exact heap_alloc_new V2 _);obtain⟨bn,hbn⟩:∃bn,V2.heap.size=bn:=⟨_,rfl⟩;have HBN:Hid (W5.heap.size≤bn):=Lh (by rw[←hbn];exact HB2.out.size);rw[hV,hbn];rw[hbn] at hx;have HN:=Lh ((HR2.out.s.keep (Kept.all hb) hb.size).mono (S':=fun i=>i≠bn) fun i (hi:i<V2.heap.size) _=>by omega);have HB3:=Lh (HB2.out.trans (hb.mono HB2.out.size));have HY3:=Lh (HY2.out.to hb);have hS3:V3.cell? ⟨b4,0,none⟩=some (.int .i64 500)∧V3.cell? ⟨b4,1,none⟩=some (.int .i64 4)∧V3.cell? ⟨b4,2,none⟩=some (.slice A4 exD.length c4):=⟨HY3.out.bx.cell 0 rfl,HY3.out.bx.cell 1 rfl,HY3.out.bx.cell 2 rfl⟩;have HT3:=Lh (HT2.out.to hb);have HR3:=Lh (HR2.out.to hb);have HX3:=Lh hx;clear hx hb hV hbn;refine hK _ _ (fun _=>?_) ?_
    ·exact hS3
    clear hK K;(try go_frame);refine tD 7 ⟨none,Op.store 27 (.tmp 9) (.tmp 53),0,_,_,_⟩ rfl fun K hK=>?_
    have z0:=HX3.out.cell 0 rfl;have z1:=HX3.out.cell 1 rfl;have z2:=HX3.out.cell 2 rfl;have y0:=HX3.out.fz 0;have y1:=HX3.out.fz 1;have y2:=HX3.out.fz 2;go_simp;clear z0 z1 z2 y0 y1 y2;refine hK _ _ (fun h=>absurd h (by decide)) ?_;clear hK K;(try simp only[Act.put]);refine tD 8 ⟨some 10,Op.assign (.tmp 54),58,_,_,_⟩ rfl fun K hK=>?_
    go_simp;refine hK _ _ (fun h=>absurd h (by decide)) ?_;clear hK K;(try go_frame);refine Qaf (by kernel_rfl) ?_ _;refine⟨rfl,Ab,cb,At,ct,bn,rfl,?_⟩;exact LB.into HL4.out.sm.t HB3.out HX3.out HBN.out HN.out
   ·go_simp;obtain⟨V2,hV⟩:∃V2,(V1.alloc (.cells #[.int .i64 0,.int .i64 0,.slice none 0 0] 27))=V2:=⟨_,rfl⟩;have hb:Below V1.heap.size V1 V2:=(by rw[←hV];exact bR.alloc nL _);have hx:ABox V2 V1.heap.size 27 [.int .i64 0,.int .i64 0,.slice none 0 0]:=(by rw[←hV];exact heap_alloc_new V1 _);obtain⟨bn,hbn⟩:∃bn,V1.heap.size=bn:=⟨_,rfl⟩;have HBN:Hid (W5.heap.size≤bn):=Lh (by rw[←hbn];exact HB1.out.size);rw[hV,hbn];rw[hbn] at hx;have HB2:=Lh (HB1.out.trans (hb.mono HB1.out.size));have HY2:=Lh (HY1.out.to hb);have hS2:V2.cell? ⟨b4,0,none⟩=some (.int .i64 500)∧V2.cell? ⟨b4,1,none⟩=some (.int .i64 4)∧V2.cell? ⟨b4,2,none⟩=some (.slice A4 exD.length c4):=⟨HY2.out.bx.cell 0 rfl,HY2.out.bx.cell 1 rfl,HY2.out.bx.cell 2 rfl⟩;have HT2:=Lh (HT1.out.to hb);have HX2:=Lh hx;clear hx hb hV hbn;refine hK _ _ (fun _=>?_) ?_
    ·exact hS2
    clear hK K;(try go_frame);refine tD 2 ⟨some 52,Op.call {callee:=Callee.value (Operand.func 38),args:=#[Operand.tmp 50,Operand.const (Value.int IntKind.i64 2),Operand.const (Value.int IntKind.i64 9),Operand.tmp 51],argTypes:=#[27,3,3,50]},81,_,_,_⟩ rfl fun K hK=>?_
    go_simp;go_at_call 38;refine(QcD (l2:=exI) 5 (by decide) 2 9 2 ⟨2,false,[8],[Qb7 1]⟩ ex_oks.2.1.2 ex_oks.2.2.1.1 rfl HY2.out.sm HT2.out ex_find.2.1 (by decide) rfl (by decide) (by decide) Qbm.1.1 (by decide)).mono ?_;rintro e V3 ⟨Ab,cb,rfl,hm,hn,hb⟩;go_simp;have HB3:=Lh (HB2.out.trans (hb.mono HB2.out.size));have HY3:=Lh (HY2.out.to hb);have hS3:V3.cell? ⟨b4,0,none⟩=some (.int .i64 500)∧V3.cell? ⟨b4,1,none⟩=some (.int .i64 4)∧V3.cell? ⟨b4,2,none⟩=some (.slice A4 exD.length c4):=⟨HY3.out.bx.cell 0 rfl,HY3.out.bx.cell 1 rfl,HY3.out.bx.cell 2 rfl⟩;have HT3:=Lh (HT2.out.to hb);have HX3:=Lh (HX2.out.to hb);have HR3:=Lh hm;have HN:=Lh (hn.mono (S':=fun i=>i≠bn) fun i (hi:V2.heap.size≤i) _=>by have:=HX2.out.lt;omega);clear hm hn hb;refine hK _ _ (fun _=>?_) ?_
    ·exact hS3
    clear hK K;(try go_frame);refine tE 3 ⟨some 49,Op.move (.tmp 52),81,_,_,_⟩ ?_ rfl ?zq48 (hS3) ?zq49;(case zq48=>intro _ s;clear s;go_simp;(try with_reducible rfl));(all_goals try go_frame);refine tF 4 ⟨some 53,Op.extract (.tmp 49) 0,27,_,_,_⟩ ?_ rfl ?zq50 ?zq51;(case zq50=>intro wS;go_simp;(try with_reducible rfl));(all_goals try go_frame);refine tF 5 ⟨some 54,Op.extract (.tmp 49) 1,58,_,_,_⟩ ?_ rfl ?zq52 ?zq53;(case zq52=>intro wS;go_simp;(try with_reducible rfl));(all_goals try go_frame);refine tD 7 ⟨none,Op.store 27 (.tmp 9) (.tmp 53),0,_,_,_⟩ rfl fun K hK=>?_
    have z0:=HX3.out.cell 0 rfl;have z1:=HX3.out.cell 1 rfl;have z2:=HX3.out.cell 2 rfl;have y0:=HX3.out.fz 0;have y1:=HX3.out.fz 1;have y2:=HX3.out.fz 2;go_simp;clear z0 z1 z2 y0 y1 y2;refine hK _ _ (fun h=>absurd h (by decide)) ?_;clear hK K;(try simp only[Act.put]);refine tD 8 ⟨some 10,Op.assign (.tmp 54),58,_,_,_⟩ rfl fun K hK=>?_
    go_simp;refine hK _ _ (fun h=>absurd h (by decide)) ?_;clear hK K;(try go_frame);refine Qaf (by kernel_rfl) ?_ _;refine⟨rfl,Ab,cb,At,ct,bn,rfl,?_⟩;exact LB.into HL4.out.sm.t HB3.out HX3.out HBN.out HN.out
  ·go_simp;obtain⟨V1,hV⟩:∃V1,(V0.alloc (.cells #[.int .i64 0,.int .i64 0,.slice none 0 0] 27))=V1:=⟨_,rfl⟩;have hb:Below V0.heap.size V0 V1:=(by rw[←hV];exact bR.alloc nL _);have hx:ABox V1 V0.heap.size 27 [.int .i64 0,.int .i64 0,.slice none 0 0]:=(by rw[←hV];exact heap_alloc_new V0 _);obtain⟨bn,hbn⟩:∃bn,V0.heap.size=bn:=⟨_,rfl⟩;have HBN:Hid (W5.heap.size≤bn):=Lh (by rw[←hbn];exact HB0.out.size);rw[hV,hbn];rw[hbn] at hx;have HB1:=Lh (HB0.out.trans (hb.mono HB0.out.size));have HY1:=Lh (HY0.out.to hb);have hS1:V1.cell? ⟨b4,0,none⟩=some (.int .i64 500)∧V1.cell? ⟨b4,1,none⟩=some (.int .i64 4)∧V1.cell? ⟨b4,2,none⟩=some (.slice A4 exD.length c4):=⟨HY1.out.bx.cell 0 rfl,HY1.out.bx.cell 1 rfl,HY1.out.bx.cell 2 rfl⟩;have HX1:=Lh hx;clear hx hb hV hbn;refine hK _ _ (fun _=>?_) ?_
   ·exact hS1
   clear hK K;(try go_frame);refine tD 1 ⟨some 51,Op.call {callee:=Callee.value (Operand.func 37),args:=#[Operand.const (Value.int IntKind.i64 5)],argTypes:=#[3]},50,_,_,_⟩ rfl fun K hK=>?_
   go_simp;go_at_call 37;refine(HW5.out V1).mono ?_;rintro e V2 ⟨At,ct,rfl,ht,hb⟩;go_simp;have HB2:=Lh (HB1.out.trans (hb.mono HB1.out.size));have HY2:=Lh (HY1.out.to hb);have hS2:V2.cell? ⟨b4,0,none⟩=some (.int .i64 500)∧V2.cell? ⟨b4,1,none⟩=some (.int .i64 4)∧V2.cell? ⟨b4,2,none⟩=some (.slice A4 exD.length c4):=⟨HY2.out.bx.cell 0 rfl,HY2.out.bx.cell 1 rfl,HY2.out.bx.cell 2 rfl⟩;have HX2:=Lh (HX1.out.to hb);have HT2:=Lh (ht.mono (S':=fun b=>b<V2.heap.size) fun i hi _=>hi.2);clear ht hb;refine hK _ _ (fun _=>?_) ?_
   ·exact hS2
   clear hK K;(try go_frame);refine tD 2 ⟨some 52,Op.call {callee:=Callee.value (Operand.func 38),args:=#[Operand.tmp 50,Operand.const (Value.int IntKind.i64 2),Operand.const (Value.int IntKind.i64 9),Operand.tmp 51],argTypes:=#[27,3,3,50]},81,_,_,_⟩ rfl fun K hK=>?_
   go_simp;go_at_call 38;refine(QcD (l2:=exI) 5 (by decide) 2 9 2 ⟨2,false,[8],[Qb7 1]⟩ ex_oks.2.1.2 ex_oks.2.2.1.1 rfl HY2.out.sm HT2.out ex_find.2.1 (by decide) rfl (by decide) (by decide) Qbm.1.1 (by decide)).mono ?_;rintro e V3 ⟨Ab,cb,rfl,hm,hn,hb⟩;go_simp;have HB3:=Lh (HB2.out.trans (hb.mono HB2.out.size));have HY3:=Lh (HY2.out.to hb);have hS3:V3.cell? ⟨b4,0,none⟩=some (.int .i64 500)∧V3.cell? ⟨b4,1,none⟩=some (.int .i64 4)∧V3.cell? ⟨b4,2,none⟩=some (.slice A4 exD.length c4):=⟨HY3.out.bx.cell 0 rfl,HY3.out.bx.cell 1 rfl,HY3.out.bx.cell 2 rfl⟩;have HT3:=Lh (HT2.out.to hb);have HX3:=Lh (HX2.out.to hb);have HR3:=Lh hm;have HN:=Lh (hn.mono (S':=fun i=>i≠bn) fun i (hi:V2.heap.size≤i) _=>by have:=HX2.out.lt;omega);clear hm hn hb;refine hK _ _ (fun _=>?_) ?_
   ·exact hS3
   clear hK K;(try go_frame);refine tE 3 ⟨some 49,Op.move (.tmp 52),81,_,_,_⟩ ?_ rfl ?zq54 (hS3) ?zq55;(case zq54=>intro _ s;clear s;go_simp;(try with_reducible rfl));(all_goals try go_frame);refine tF 4 ⟨some 53,Op.extract (.tmp 49) 0,27,_,_,_⟩ ?_ rfl ?zq56 ?zq57;(case zq56=>intro wS;go_simp;(try with_reducible rfl));(all_goals try go_frame);refine tF 5 ⟨some 54,Op.extract (.tmp 49) 1,58,_,_,_⟩ ?_ rfl ?zq58 ?zq59;(case zq58=>intro wS;go_simp;(try with_reducible rfl));(all_goals try go_frame);refine tD 7 ⟨none,Op.store 27 (.tmp 9) (.tmp 53),0,_,_,_⟩ rfl fun K hK=>?_
   have z0:=HX3.out.cell 0 rfl;have z1:=HX3.out.cell 1 rfl;have z2:=HX3.out.cell 2 rfl;have y0:=HX3.out.fz 0;have y1:=HX3.out.fz 1;have y2:=HX3.out.fz 2;go_simp;clear z0 z1 z2 y0 y1 y2;refine hK _ _ (fun h=>absurd h (by decide)) ?_;clear hK K;(try simp only[Act.put]);refine tD 8 ⟨some 10,Op.assign (.tmp 54),58,_,_,_⟩ rfl fun K hK=>?_
   go_simp;refine hK _ _ (fun h=>absurd h (by decide)) ?_;clear hK K;(try go_frame);refine Qaf (by kernel_rfl) ?_ _;refine⟨rfl,Ab,cb,At,ct,bn,rfl,?_⟩;exact LB.into HL4.out.sm.t HB3.out HX3.out HBN.out HN.out
 rintro _ W6 ⟨A5,c5,At,ct,b5,rfl,hl,hb⟩;have HL5:=Lh hl;go_frame;have HL1:=Lh (HL1.out.to hb);have HL2:=Lh (HL2.out.to hb);have HL3:=Lh (HL3.out.to hb);have HL4:=Lh (HL4.out.to hb);have HB:=Lh (HB.out.trans (hb.mono HB.out.size));clear hl hb;have q0:=HL5.out.bx.cell 0 rfl;have q1:=HL5.out.bx.cell 1 rfl;have q2:=HL5.out.bx.cell 2 rfl
 go_upto_region 7 with(first|(go_at_call 39;refine(ex_strike (l2:=exK) 2 2 ex_oks.2.2.1.1 rfl HL5.out.sm ex_find.2.2.1 (by decide)).mono ?_;rintro e V1 ⟨Ab,cb,rfl,hm,-,hb⟩;have HM1:=Lh hm;have HV1:=Lh hb;clear hm hb)|fail)
 obtain⟨W7,hW⟩:∃W7,V1.alloc (.cells #[.int .i64 500,.int .i64 4,.slice Ab exK.length cb] 27)=W7:=⟨_,rfl⟩;have hl:=LB.fresh HM1.out;obtain⟨b6,hbk⟩:∃b6,V1.heap.size=b6:=⟨_,rfl⟩;obtain⟨A6,hAk⟩:∃A6,Ab=A6:=⟨_,rfl⟩;obtain⟨c6,hck⟩:∃c6,cb=c6:=⟨_,rfl⟩;rw[hW] at hl ⊢;rw[hbk,hAk,hck];have hb:Below W6.heap.size W6 W7:=HV1.out.trans (hl.2.mono HV1.out.size);have HL6:Hid (LB W7 b6 A6 c6 exK):=Lh (by rw[←hbk,←hAk,←hck];exact hl.1);have HL1:=Lh (HL1.out.to hb);have HL2:=Lh (HL2.out.to hb);have HL3:=Lh (HL3.out.to hb);have HL4:=Lh (HL4.out.to hb);have HL5:=Lh (HL5.out.to hb);have HB:=Lh (HB.out.trans (hb.mono HB.out.size));clear hl hb hW hbk hAk hck q0 q1 q2;have q0:=HL6.out.bx.cell 0 rfl;have q1:=HL6.out.bx.cell 1 rfl;have q2:=HL6.out.bx.cell 2 rfl
 go_upto_region 8 with(first|(go_at_call 39;refine(ex_strike (l2:=exM) 0 0 ex_oks.2.2.1.2 rfl HL6.out.sm ex_find.2.2.2 (by decide)).mono ?_;rintro e V1 ⟨Ab,cb,rfl,hm,-,hb⟩;have HM1:=Lh hm;have HV1:=Lh hb;clear hm hb)|fail)
 obtain⟨W8,hW⟩:∃W8,V1.alloc (.cells #[.int .i64 500,.int .i64 4,.slice Ab exM.length cb] 27)=W8:=⟨_,rfl⟩;have hl:=LB.fresh HM1.out;obtain⟨b7,hbk⟩:∃b7,V1.heap.size=b7:=⟨_,rfl⟩;obtain⟨A7,hAk⟩:∃A7,Ab=A7:=⟨_,rfl⟩;obtain⟨c7,hck⟩:∃c7,cb=c7:=⟨_,rfl⟩;rw[hW] at hl ⊢;rw[hbk,hAk,hck];have hb:Below W7.heap.size W7 W8:=HV1.out.trans (hl.2.mono HV1.out.size);have HL7:Hid (LB W8 b7 A7 c7 exM):=Lh (by rw[←hbk,←hAk,←hck];exact hl.1);have HL1:=Lh (HL1.out.to hb);have HL2:=Lh (HL2.out.to hb);have HL3:=Lh (HL3.out.to hb);have HL4:=Lh (HL4.out.to hb);have HL5:=Lh (HL5.out.to hb);have HL6:=Lh (HL6.out.to hb);have HB:=Lh (HB.out.trans (hb.mono HB.out.size));clear hl hb hW hbk hAk hck q0 q1 q2;have q0:=HL3.out.bx.cell 0 rfl;have q1:=HL3.out.bx.cell 1 rfl;have q2:=HL3.out.bx.cell 2 rfl
 go_upto_region 9 with(first|(go_at_call 18;refine(ex_where (e:=0) (v:=7) (wd:=4) (n:=2) (s:=2) (i:=1) ex_oks.2.1.1 HL3.out.sm ex_where1).mono ?_;rintro e V1 ⟨rfl,hb⟩;have HV1:=Lh hb;clear hb)|fail)
 obtain⟨W9,hW⟩:∃W9,V1.alloc (.cells #[.int .i64 2,.int .i64 2] 24)=W9:=⟨_,rfl⟩;have hb2:Below V1.heap.size V1 W9:=by rw[←hW];exact bR.alloc nL _
 have hx:ABox W9 V1.heap.size 24 [.int .i64 2,.int .i64 2]:=by rw[←hW];exact heap_alloc_new V1 _
 obtain⟨b8,hbk⟩:∃b8,V1.heap.size=b8:=⟨_,rfl⟩;rw[hW,hbk];rw[hbk] at hx;have hb:Below W8.heap.size W8 W9:=HV1.out.trans (hb2.mono HV1.out.size);have HX8:=Lh hx;have HL1:=Lh (HL1.out.to hb);have HL2:=Lh (HL2.out.to hb);have HL3:=Lh (HL3.out.to hb);have HL4:=Lh (HL4.out.to hb);have HL5:=Lh (HL5.out.to hb);have HL6:=Lh (HL6.out.to hb);have HL7:=Lh (HL7.out.to hb);have HB:=Lh (HB.out.trans (hb.mono HB.out.size));clear hb hb2 hx hW hbk q0 q1 q2 HV1;have q0:=HL3.out.bx.cell 0 rfl;have q1:=HL3.out.bx.cell 1 rfl;have q2:=HL3.out.bx.cell 2 rfl
 go_upto_region 10 with(first|(go_at_call 18;refine(ex_where (e:=0) (v:=3) (wd:=4) (n:=2) (s:=0) (i:=1) ex_oks.2.1.1 HL3.out.sm ex_where2).mono ?_;rintro e V1 ⟨rfl,hb⟩;have HV1:=Lh hb;clear hb)|fail)
 obtain⟨W10,hW⟩:∃W10,V1.alloc (.cells #[.int .i64 2,.int .i64 0] 24)=W10:=⟨_,rfl⟩;have hb2:Below V1.heap.size V1 W10:=by rw[←hW];exact bR.alloc nL _
 have hx:ABox W10 V1.heap.size 24 [.int .i64 2,.int .i64 0]:=by rw[←hW];exact heap_alloc_new V1 _
 obtain⟨b9,hbk⟩:∃b9,V1.heap.size=b9:=⟨_,rfl⟩;rw[hW,hbk];rw[hbk] at hx;have hb:Below W9.heap.size W9 W10:=HV1.out.trans (hb2.mono HV1.out.size);have HX9:=Lh hx;have HL1:=Lh (HL1.out.to hb);have HL2:=Lh (HL2.out.to hb);have HL3:=Lh (HL3.out.to hb);have HL4:=Lh (HL4.out.to hb);have HL5:=Lh (HL5.out.to hb);have HL6:=Lh (HL6.out.to hb);have HL7:=Lh (HL7.out.to hb);have HX8:=Lh (HX8.out.to hb);have HB:=Lh (HB.out.trans (hb.mono HB.out.size));clear hb hb2 hx hW hbk q0 q1 q2 HV1;go_upto_region 11 with(fail);have q0:=HL2.out.bx.cell 0 rfl;have q1:=HL2.out.bx.cell 1 rfl;have q2:=HL2.out.bx.cell 2 rfl;go_wp2_with fail;refine(QbC ex_oks.1.2.2.1 HL2.out.sm ex_ok.1.2 ex_labA).mono ?_;rintro e W11 ⟨rfl,hb⟩;have HL1:=Lh (HL1.out.to hb);have HL2:=Lh (HL2.out.to hb);have HL3:=Lh (HL3.out.to hb);have HL4:=Lh (HL4.out.to hb);have HL5:=Lh (HL5.out.to hb);have HL6:=Lh (HL6.out.to hb);have HL7:=Lh (HL7.out.to hb);have HX8:=Lh (HX8.out.to hb);have HX9:=Lh (HX9.out.to hb);have HB:=Lh (HB.out.trans (hb.mono HB.out.size));clear hb q0 q1 q2;have q0:=HL3.out.bx.cell 0 rfl;have q1:=HL3.out.bx.cell 1 rfl;have q2:=HL3.out.bx.cell 2 rfl;go_wp2_with fail;refine(QbC ex_oks.2.1.1 HL3.out.sm ex_ok.2.1.1 ex_labC).mono ?_;rintro e W12 ⟨rfl,hb⟩;have HL1:=Lh (HL1.out.to hb);have HL2:=Lh (HL2.out.to hb);have HL3:=Lh (HL3.out.to hb);have HL4:=Lh (HL4.out.to hb);have HL5:=Lh (HL5.out.to hb);have HL6:=Lh (HL6.out.to hb);have HL7:=Lh (HL7.out.to hb);have HX8:=Lh (HX8.out.to hb);have HX9:=Lh (HX9.out.to hb);have HB:=Lh (HB.out.trans (hb.mono HB.out.size));clear hb q0 q1 q2;have q0:=HL4.out.bx.cell 0 rfl;have q1:=HL4.out.bx.cell 1 rfl;have q2:=HL4.out.bx.cell 2 rfl;go_wp2_with fail;refine(QbC ex_oks.2.1.2 HL4.out.sm ex_ok.2.1.2 ex_labD).mono ?_;rintro e W13 ⟨rfl,hb⟩;have HL1:=Lh (HL1.out.to hb);have HL2:=Lh (HL2.out.to hb);have HL3:=Lh (HL3.out.to hb);have HL4:=Lh (HL4.out.to hb);have HL5:=Lh (HL5.out.to hb);have HL6:=Lh (HL6.out.to hb);have HL7:=Lh (HL7.out.to hb);have HX8:=Lh (HX8.out.to hb);have HX9:=Lh (HX9.out.to hb);have HB:=Lh (HB.out.trans (hb.mono HB.out.size));clear hb q0 q1 q2;have q0:=HL5.out.bx.cell 0 rfl;have q1:=HL5.out.bx.cell 1 rfl;have q2:=HL5.out.bx.cell 2 rfl;go_wp2_with fail;refine(QbC ex_oks.2.2.1.1 HL5.out.sm ex_ok.2.2.1.1 ex_labI).mono ?_;rintro e W14 ⟨rfl,hb⟩;have HL1:=Lh (HL1.out.to hb);have HL2:=Lh (HL2.out.to hb);have HL3:=Lh (HL3.out.to hb);have HL4:=Lh (HL4.out.to hb);have HL5:=Lh (HL5.out.to hb);have HL6:=Lh (HL6.out.to hb);have HL7:=Lh (HL7.out.to hb);have HX8:=Lh (HX8.out.to hb);have HX9:=Lh (HX9.out.to hb);have HB:=Lh (HB.out.trans (hb.mono HB.out.size));clear hb q0 q1 q2;have l0:=HX8.out.cell 0 rfl;have l1:=HX8.out.cell 1 rfl;have m0:=HX9.out.cell 0 rfl;have m1:=HX9.out.cell 1 rfl;go_upto_region 13 with(fail);clear l0 l1 m0 m1;refine Qaj [9,11,16,18] (fun i=>if i=9 then SP.val (.string ⟨#[49,32,50,32,50,97,32,50,98,32,50,99,32,51,32]⟩) else if i=11 then SP.val (.string ⟨#[49,32,50,32,50,97,32,50,98,32,50,99,32,51,32]⟩) else if i=16 then SP.val (.string ⟨#[49,32,50,32,50,97,32,50,98,32,50,99,32,51,32]⟩) else if i=18 then SP.val (.string ⟨#[49,32,50,32,50,97,32,50,98,32,50,99,32,51,32]⟩) else SP.any) 22 (by kernel_rfl) (by kernel_rfl) ?_;intro T _ g hg hgm;have q60:∀d,(g d).cell? ⟨b6,0,none⟩=some (.int .i64 500):=fun d=>(HL6.out.to (hg d)).bx.cell 0 rfl
 have q61:∀d,(g d).cell? ⟨b6,1,none⟩=some (.int .i64 4):=fun d=>(HL6.out.to (hg d)).bx.cell 1 rfl
 have q62:∀d,(g d).cell? ⟨b6,2,none⟩=some (.slice A6 exK.length c6):=fun d=>(HL6.out.to (hg d)).bx.cell 2 rfl
 have q30:∀d,(g d).cell? ⟨b3,0,none⟩=some (.int .i64 500):=fun d=>(HL3.out.to (hg d)).bx.cell 0 rfl
 have q31:∀d,(g d).cell? ⟨b3,1,none⟩=some (.int .i64 4):=fun d=>(HL3.out.to (hg d)).bx.cell 1 rfl
 have q32:∀d,(g d).cell? ⟨b3,2,none⟩=some (.slice A3 exC.length c3):=fun d=>(HL3.out.to (hg d)).bx.cell 2 rfl
 have q70:∀d,(g d).cell? ⟨b7,0,none⟩=some (.int .i64 500):=fun d=>(HL7.out.to (hg d)).bx.cell 0 rfl
 have q71:∀d,(g d).cell? ⟨b7,1,none⟩=some (.int .i64 4):=fun d=>(HL7.out.to (hg d)).bx.cell 1 rfl
 have q72:∀d,(g d).cell? ⟨b7,2,none⟩=some (.slice A7 exM.length c7):=fun d=>(HL7.out.to (hg d)).bx.cell 2 rfl
 (repeat(refine Qah (by rfl) fun Kq hq=>?_;go_big_quiet_step (fail);refine wpQuiet_nil (hq _ ?_);clear hq Kq));refine Qap (by rfl) (by rfl) (fun d hG K Q hK=>?_) (fun v d hG hp Kr hr=>?_)
 ·go_simp;go_at_call 40;refine(QbC ex_oks.2.2.1.2 (HL6.out.to (hg d)).sm ex_ok.2.2.1.2 (ex_labK.trans ex_labC)).mono ?_;rintro e W1 ⟨rfl,hb1⟩;go_simp;exact hK _ _ hb1 (rfl)
 have hp:v=.string ⟨#[49,32,50,32,50,97,32,50,98,32,50,99,32,51,32]⟩:=hp;subst hp;(try clear hp);clear hG;go_frame;refine hr _ ?_;clear hr Kr;(repeat(refine Qah (by rfl) fun Kq hq=>?_;go_big_quiet_step (fail);refine wpQuiet_nil (hq _ ?_);clear hq Kq));refine Qap (by rfl) (by rfl) (fun d hG K Q hK=>?_) (fun v d hG hp Kr hr=>?_)
 ·go_simp;go_at_call 40;refine(QbC ex_oks.2.1.1 (HL3.out.to (hg d)).sm ex_ok.2.1.1 ex_labC).mono ?_;rintro e W1 ⟨rfl,hb1⟩;go_simp;exact hK _ _ hb1 (rfl)
 have hp:v=.string ⟨#[49,32,50,32,50,97,32,50,98,32,50,99,32,51,32]⟩:=hp;subst hp;(try clear hp);clear hG;go_frame;refine hr _ ?_;clear hr Kr;(repeat(refine Qah (by rfl) fun Kq hq=>?_;go_big_quiet_step (fail);refine wpQuiet_nil (hq _ ?_);clear hq Kq));refine Qap (by rfl) (by rfl) (fun d hG K Q hK=>?_) (fun v d hG hp Kr hr=>?_)
 ·go_simp;go_at_call 40;refine(QbC ex_oks.2.2.2 (HL7.out.to (hg d)).sm ex_ok.2.2.2 (ex_labM.trans ex_labC)).mono ?_;rintro e W1 ⟨rfl,hb1⟩;go_simp;exact hK _ _ hb1 (rfl)
 have hp:v=.string ⟨#[49,32,50,32,50,97,32,50,98,32,50,99,32,51,32]⟩:=hp;subst hp;(try clear hp);clear hG;go_frame;refine hr _ ?_;clear hr Kr;(repeat(refine Qah (by rfl) fun Kq hq=>?_;go_big_quiet_step (fail);refine wpQuiet_nil (hq _ ?_);clear hq Kq));refine Qap (by rfl) (by rfl) (fun d hG K Q hK=>?_) (fun v d hG hp Kr hr=>?_)
 ·go_simp;go_at_call 40;refine(QbC ex_oks.2.1.1 (HL3.out.to (hg d)).sm ex_ok.2.1.1 ex_labC).mono ?_;rintro e W1 ⟨rfl,hb1⟩;go_simp;exact hK _ _ hb1 (rfl)
 have hp:v=.string ⟨#[49,32,50,32,50,97,32,50,98,32,50,99,32,51,32]⟩:=hp;subst hp;(try clear hp);clear hG;go_frame;refine hr _ ?_;clear hr Kr;(repeat(refine Qah (by rfl) fun Kq hq=>?_;go_big_quiet_step (fail);refine wpQuiet_nil (hq _ ?_);clear hq Kq));refine Qcg (by kernel_rfl) (fun d hG=>?_) _;have HBd:=Lh (hg d);clear hG hg hgm;unfold Exit.then;go_wp2_with fail;go_ret;exact⟨rfl,HB.out.trans (HBd.out.mono HB.out.size)⟩
structure LM (m h:Int)(w:World)(b:Nat)(A:Option Addr)(c:Nat)(l:List SectP):Prop where
 bx:ABox w b 27 [.int .i64 m,.int .i64 h,.slice A l.length c]
 sm:SM w A c l
structure LT (w:World)(x:Nat)(A:Option Addr)(c:Nat)(B:Option Addr)(d:Nat)(a b:List (List Word)):Prop where
 bx:ABox w x 50 [.slice A a.length c,.slice B b.length d]
 tm:TM w A c B d a b
structure CoreP where
 entry:Int
 ver:Int
 body:List LineP
 notes:List LineP
def PageP.core (p:PageP):CoreP:=⟨p.entry,p.ver,p.body,p.notes⟩
def coreT (e v:Int)(p:PageP):CoreP:=⟨e,v,p.body,p.notes⟩
def coreV (m h e:Int):List Int→List TextP→List CoreP
 |_,[]=>[]
 |vs,t::ts=>(Qak t.a t.b m h).map (coreT e (vs.headD 0))++coreV m h e vs.tail ts
def coreS (m h:Int)(l:List SectP):List CoreP:=l.flatMap fun s=>coreV m h s.entry s.vers s.texts
theorem Qeg (e v:Int):∀(ps:List PageP) (num suf:Int) (k:Nat),(QaR e v num suf k ps).map PageP.core=ps.map (coreT e v)
 |[],_,_,_=>by simp[QaR]
 |p::ps,num,suf,k=>by
  rw[Qbx,List.map_cons,List.map_cons,Qeg];rfl
theorem versB_core (m h e:Int):∀(ts:List TextP) (k:Nat) (num suf:Int) (vs:List Int),(QaJ m h e k num suf vs ts).map PageP.core=coreV m h e vs ts
 |[],_,_,_,_=>by simp[QaJ,coreV]
 |t::ts,k,num,suf,vs=>by
  rw[QaJ,List.map_append,Qeg,versB_core m h e ts];rfl
theorem Qed (m h:Int):∀(l:List SectP) (num:Int),(Qaq m h num l).map PageP.core=coreS m h l
 |[],_=>rfl
 |s::l,num=>by
  rw[Qaq,List.map_append,versB_core,Qed m h l];rfl
theorem Qd3 (m h:Int)(l:List SectP):(Qac m h l).map PageP.core=coreS m h l:=Qed m h l 0
theorem QdG (P:LineP→Prop)(notes:List (List LineP))(hn:∀n∈notes,∀x∈n,P x)(h:Nat):∀(f:Nat) (body queue:List LineP),(∀x∈body,P x)→(∀x∈queue,P x)→∀p∈setPages notes h f body queue,(∀x∈p.body,P x)∧∀x∈p.notes,P x
 |0,_,_,_,_=>by simp[setPages]
 |f+1,body,queue,h1,h2=>by
  obtain⟨k,a,b,c,d,e⟩:=QbM notes h body 0 (min queue.length (h-1)) queue (Nat.min_le_left _ _);have hq:∀x∈(fillP notes h body 0 (min queue.length (h-1)) queue).2.2,P x:=by
   rw[d];intro x hx;rcases List.mem_append.1 hx with hx|hx
   ·exact h2 x hx
   ·obtain⟨y,-,hy⟩:=List.mem_flatMap.1 hx;unfold Qag at hy;obtain⟨q,-,hq⟩:=List.mem_flatMap.1 hy;by_cases hl:q.toNat<notes.length
    ·rw[List.getD_eq_getElem?_getD,qG hl] at hq;exact hn _ (List.getElem_mem hl) x hq
    ·rw[List.getD_eq_getElem?_getD,List.getElem?_eq_none (by omega)] at hq;simp at hq
  intro p hp;rw[setPages] at hp;split at hp
  ·simp at hp
  ·rcases List.mem_cons.1 hp with rfl|hp
   ·exact⟨fun x hx=>h1 x (List.mem_of_mem_take hx),fun x hx=>hq x (List.mem_of_mem_take hx)⟩
   ·exact QdG P notes hn h f _ _ (fun x hx=>h1 x (List.mem_of_mem_drop hx)) (fun x hx=>hq x (List.mem_of_mem_drop hx)) p hp
theorem okPages_lines (a b:List (List Word))(m h:Int):∀p∈Qak a b m h,QaF p.body∧QaF p.notes:=by
 unfold Qak;split
 ·rename_i hE;obtain⟨hf,⟨h1,h2⟩,hp⟩:=Qbs hE;have hs:=hf.small m;exact QdG (fun x=>x.gaps.length≤100000∧x.notes.length≤100000) (Qat a b m) hs.2 h.toNat _ (Qba a m) [] hs.1 (by simp)
 ·intro p hp;simp at hp
theorem Qc1 {w:World}{S:Nat→Prop}{A:Option Addr}{c:Nat}{l:List PageP}(h:Sl w S A c l){k:Nat}(hk:k<l.length):
 ∃b o A1 c1 A2 c2,A=some ⟨b,o,none⟩∧S b∧b<w.heap.size∧w.cell? ⟨b,o+k*6,none⟩=some (.int .i64 l[k].num)∧w.cell? ⟨b,o+k*6+1,none⟩=some (.int .i64 l[k].suf)∧w.cell? ⟨b,o+k*6+2,none⟩=some (.int .i64 l[k].entry)∧ w.cell? ⟨b,o+k*6+3,none⟩=some (.int .i64 l[k].ver)∧w.cell? ⟨b,o+k*6+4,none⟩=some (.slice A1 l[k].body.length c1)∧w.cell? ⟨b,o+k*6+5,none⟩=some (.slice A2 l[k].notes.length c2)∧Sl w S A1 c1 l[k].body∧Sl w S A2 c2 l[k].notes:=by
 obtain⟨b,o,va,vb,rfl,hb,hlt,h0,h1,h2,h3,h4,h5,⟨A1,c1,e1,r1,-⟩,⟨A2,c2,e2,r2,-⟩⟩:=page_at h hk;cases e1;cases e2;exact⟨b,o,A1,c1,A2,c2,rfl,hb,hlt,h0,h1,h2,h3,h4,h5,r1,r2⟩
def SP.pgE (B:Nat)(l:List PageP)(E:Int):SP:=⟨fun v w=>∃A c,v=.tuple #[.slice A l.length c,.int .i64 E]∧Sl w (Up B) A c l,fun _ _ _ h hb=>by
 obtain⟨A,c,h1,h2⟩:=h
 exact⟨A,c,h1,h2.keep (Kept.all hb) hb.size⟩⟩
theorem plainB_first (m h:Int)(x:SectP)(h0:0<x.texts.length):QaA m h x=(Qak x.texts[0].a x.texts[0].b m h).length:=by
 obtain⟨e,f,v,ts⟩:=x;cases ts with
 |nil=>exact absurd h0 (Nat.lt_irrefl 0)
 |cons t ts=>rfl
theorem rText_ok {A B:Option Addr}{c d:Nat}{a b:List (List Word)}{m h:Int}{w:World}(ha:Sl w (fun b=>b<w.heap.size) A c a)(hb:Sl w (fun b=>b<w.heap.size) B d b)(hla:a.length≤1048576)(hlb:b.length≤1048576):
 Calls Tryz.prog 32 #[.agg #[.slice A a.length c,.slice B b.length d],.int .i64 m,.int .i64 h] w fun e w'=>∃v,e=.returned v∧(SP.pgE w.heap.size (Qak a b m h) (textE a b m h)).p v w'∧Below w.heap.size w w':=by
 refine(rText_any A B c d a b m h w ha hb hla hlb).mono ?_;rintro e w' ⟨v,rfl,h1,h2,h3⟩;by_cases h0:textE a b m h=0
 ·obtain⟨A',c',rfl,hs⟩:=((h1 h0).up nL).sl;exact⟨_,rfl,⟨A',c',by unfold Qak;rw[if_pos h0],by unfold Qak;rw[if_pos h0];exact hs⟩,h3⟩
 ·obtain rfl:=h2 h0;exact⟨_,rfl,⟨none,0,by unfold Qak;rw[if_neg h0];rfl,by unfold Qak;rw[if_neg h0];exact Sl.nil _ _ _ _ (Nat.zero_le _)⟩,h3⟩
set_option maxRecDepth 100000 in
theorem rpages_any {m h:Int}{A:Option Addr}{c:Nat}{l:List SectP}{w:World}(H:BookOk w m h A c l):
 Calls Tryz.prog 10 #[.agg #[.int .i64 m,.int .i64 h,.slice A l.length c]] w fun e W'=>∃v,e=.returned v∧OwnP W' w.heap.size 36 v (Qac m h l) (Up w.heap.size)∧Below w.heap.size w W':=by
 obtain⟨n,hn⟩:∃n,l.length=n:=⟨_,rfl⟩;obtain⟨wb,hwb⟩:∃wb,w.alloc (.cells #[.int .i64 m,.int .i64 h,.slice A n c] 27)=wb:=⟨_,rfl⟩;have hba:Below w.heap.size w wb:=by rw[←hwb];exact bR.alloc nL _
 have hx0:ABox wb w.heap.size 27 [.int .i64 m,.int .i64 h,.slice A n c]:=by rw[←hwb];exact heap_alloc_new w _
 have HB:=Lh (H.to hba);have HBA:=Lh hba;have HX0:=Lh hx0;have HN:=Lh hn;have hnc:n≤c:=by rw[←hn];exact H.s.1
 have hn9:n≤1048576:=by rw[←hn];exact H.sh.1
 rw[hn];clear hba hx0 hn H;go_enter Tryz.func10,Tryz.ntmps10;go_upto_region 1 with(fail);(try rw[hwb]);clear hwb;go_wp2_with fail;go_loopw [3,4,5] (fun v3 v4 v5 wr=>∃(i:Nat) (num:Int) (done:List PageP),v5=.int .i64 (i:Int)∧i≤n∧v4=.int .i64 num∧0≤num∧num≤done.length∧Hid (OwnP wr wb.heap.size 36 v3 done (Up wb.heap.size))∧Hid (done++Qaq m h num (l.drop i)=Qac m h l)∧Hid (Below wb.heap.size wb wr)) (fun _ _ v5 _=>n-(intOf v5).toNat);(case atStart=>exact⟨0,0,[],rfl,Nat.zero_le _,rfl,Int.le_refl _,by simp,Lh (OwnP.nil _ _ _ _),Lh rfl,Lh bR⟩);case round=>
  obtain⟨i,num,done,rfl,hi,rfl,hn0,hn1,HO,HD,HBl⟩:=hrel;have y2:=(HX0.out.to HBl.out).cell 2 rfl;obtain⟨A3,c3,hv3,-,-⟩:=HO.out.len;subst hv3;by_cases hlt:i<n
  ·have hil:i<l.length:=by rw[HN.out];exact hlt
   obtain⟨b,o,Ag,cg,An,cn,rfl,-,hbb,e0',e1',e2',e3',hg1,hn2,-⟩:=Qbv HB.out.s hil;have e0:=(HBl.out.cell (p:=⟨b,o+i*4,none⟩) hbb).trans e0';have e1:=(HBl.out.cell (p:=⟨b,o+i*4+1,none⟩) hbb).trans e1';have e2:=(HBl.out.cell (p:=⟨b,o+i*4+2,none⟩) hbb).trans e2';have e3:=(HBl.out.cell (p:=⟨b,o+i*4+3,none⟩) hbb).trans e3';clear e0' e1' e2' e3' hbb;have hsd:l.drop i=l[i]::l.drop (i+1):=List.drop_eq_getElem_cons hil;have hwf:=HB.out.wf _ (List.getElem_mem hil);have hsh:=HB.out.sh.2 _ (List.getElem_mem hil);obtain⟨x,hx⟩:∃x,l[i]=x:=⟨_,rfl⟩;rw[hx] at e0 e1 e2 e3 hg1 hn2 hsd hwf hsh;have HSD:=Lh hsd;have HSH:=Lh hsh;have hiI:(i:Int)<(n:Int):=(by omega);obtain⟨S,hS⟩:∃S,wr.heap.size=S:=⟨_,rfl⟩;obtain⟨ws,hws⟩:∃ws,wr.alloc (.cells #[.int .i64 x.entry,.bool x.frozen,.slice Ag x.vers.length cg,.slice An x.texts.length cn] 45)=ws:=⟨_,rfl⟩;have hbs:Below wr.heap.size wr ws:=(by rw[←hws];exact bR.alloc nL _);have hxs:ABox ws S 45 [.int .i64 x.entry,.bool x.frozen,.slice Ag x.vers.length cg,.slice An x.texts.length cn]:=(by rw[←hws,←hS];exact heap_alloc_new wr _);have HXS:=Lh hxs;have HG1:=Lh hg1;have HN2:=Lh hn2;have HO1:=Lh (HO.out.below hbs);have HOS1:Hid (∀g,(Value.slice A3 done.length c3).ownBlock=some g→g≠S):=Lh (fun g hg=>by have:=(HO.out.lt g hg).2;omega);have HSL:Hid (S<ws.heap.size∧wb.heap.size≤S):=Lh ⟨hxs.lt,by rw[←hS];exact HBl.out.size⟩;have HB1:=Lh (HBl.out.trans (hbs.mono HBl.out.size));have htv:x.texts.length≤x.vers.length:=hwf;have htc:x.texts.length≤cn:=hn2.1;have hvc:x.vers.length≤cg:=hg1.1;have ht9:x.texts.length≤1048576:=hsh.2.1;go_upto_region 7 with(fail);(try rw[hS]);(try rw[hws]);clear hS hws hbs hxs hg1 hn2 hx hsd hwf hsh hil e0 e1 e2 e3 y2 HO HBl;go_wp2_with fail
   go_loopw [3,4,7,8] (fun v3 v4 v7 v8 wx=>∃(k:Nat) (nu su:Int) (dn:List PageP),v8=.int .i64 (k:Int)∧k≤x.texts.length∧v4=.int .i64 nu∧v7=.int .i64 su∧(0≤nu∧nu≤dn.length∧0≤su∧su≤dn.length)∧Hid (nu=if k=0 then num else num+QaA m h x)∧Hid (OwnP wx wb.heap.size 36 v3 dn (Up wb.heap.size))∧ Hid (dn++(QaJ m h x.entry k nu su (x.vers.drop k) (x.texts.drop k)++Qaq m h (num+QaA m h x) (l.drop (i+1)))=Qac m h l)∧Hid (KS (fun b=>b<wb.heap.size∨b=S) ws wx)∧Hid (∀g,v3.ownBlock=some g→g≠S)) (fun _ _ _ v8 _=>x.texts.length-(intOf v8).toNat)
   (case atStart=>exact⟨0,num,0,done,rfl,Nat.zero_le _,rfl,rfl,⟨hn0,hn1,Int.le_refl _,by omega⟩,Lh rfl,HO1,Lh (by rw[List.drop_zero,List.drop_zero,←HD.out,HSD.out];rfl),Lh (KS.refl _ _),HOS1⟩);case round=>
    clear HO1 HOS1;obtain⟨k,nu,su,dn,rfl,hk,rfl,rfl,⟨hu1,hu2,hu3,hu4⟩,HNU,HO,HD2,HBx,HOS⟩:=hrel;obtain⟨A3,c3,hv3,-,-⟩:=HO.out.len;subst hv3;have HXSx:Hid (ABox wr S 45 [.int .i64 x.entry,.bool x.frozen,.slice Ag x.vers.length cg,.slice An x.texts.length cn]):=Lh ((HBx.out.block S (.inr rfl) HSL.out.1).trans HXS.out);have p3:=HXSx.out.cell 3 rfl;have HBB:Hid (Below wb.heap.size wb wr):=Lh (HB1.out.trans (HBx.out.below (fun i hi=>.inl hi) HB1.out.size));by_cases hkl:k<x.texts.length
    ·obtain⟨bt,ot,Aa,ca,Ab,cb,rfl,hbt,-,a0,a1,ht1,ht2⟩:=text_at (HN2.out.keep (Kept.below HBB.out (fun _ h=>h)) HBB.out.size) hkl;obtain⟨bv,ov,rfl,hbv,-,-,ev⟩:=Qa8 (HG1.out.keep (Kept.below HBB.out (fun _ h=>h)) HBB.out.size) (k:=k) (by omega);have htd:x.texts.drop k=x.texts[k]::x.texts.drop (k+1):=List.drop_eq_getElem_cons hkl;have hvd:x.vers.drop k=x.vers[k]'(by omega)::x.vers.drop (k+1):=List.drop_eq_getElem_cons (by omega);have hshy:=HSH.out.2.2 _ (List.getElem_mem hkl)
     have hpz:k=0→QaA m h x=(Qak x.texts[k].a x.texts[k].b m h).length:=fun h0=>by
      subst h0;exact plainB_first m h x hkl
     obtain⟨y,hy⟩:∃y,x.texts[k]=y:=⟨_,rfl⟩;obtain⟨vk,hvk⟩:∃vk,x.vers[k]'(by omega)=vk:=⟨_,rfl⟩;rw[hy] at a0 a1 ht1 ht2 htd hshy hpz;rw[hvk] at ev hvd;obtain⟨ps,hps⟩:∃ps,Qak y.a y.b m h=ps:=⟨_,rfl⟩;rw[hps] at hpz;have HPS:=Lh hps;have HPZ:=Lh hpz
     have HD3:Hid (dn++(QaR x.entry vk nu su k ps++(QaJ m h x.entry (k+1) (if k=0 then nu+ps.length else nu) (if k=0 then su else su+ps.length) (x.vers.drop (k+1)) (x.texts.drop (k+1))++Qaq m h (num+QaA m h x) (l.drop (i+1))))=Qac m h l):=Lh (by
      rw[←HD2.out,htd,hvd,QaJ,hps,List.append_assoc];rfl)
     have HT1:Hid (Sl wr (fun b=>b<wr.heap.size) Aa ca y.a):=Lh (ht1.mono (fun i _ hl=>hl));have HT2:Hid (Sl wr (fun b=>b<wr.heap.size) Ab cb y.b):=Lh (ht2.mono (fun i _ hl=>hl));have HSY:=Lh hshy;have hkI:(k:Int)<(x.texts.length:Int):=(by omega);have hkv:(k:Int)<(x.vers.length:Int):=(by omega);have HBT:Hid (bt<wr.heap.size∧bv<wr.heap.size):=Lh ⟨Nat.lt_of_lt_of_le hbt HBB.out.size,Nat.lt_of_lt_of_le hbv HBB.out.size⟩;have HBVb:Hid (bv<wb.heap.size):=Lh hbv;have HA0:=Lh a0;have HA1:=Lh a1;have HEV:=Lh ev;have HX0w:=Lh (HX0.out.to HBB.out);have HSw:Hid (S<wr.heap.size):=Lh HXSx.out.lt;clear hy hvk hps hpz htd hvd ht1 ht2 hshy hbt hbv HD2;go_upto_region 11 with(fail);clear p3 a0 a1 ev;refine Qaj [9] (fun i=>if i=9 then SP.pgE wr.heap.size ps (textE y.a y.b m h) else SP.any) 15 (by kernel_rfl) (by kernel_rfl) ?_;intro T _ g hg hgm;have p3:∀d,(g d).cell? ⟨S,3,none⟩=some (.slice (some ⟨bt,ot,none⟩) x.texts.length cn):=fun d=>(HXSx.out.to (hg d)).cell 3 rfl
     have b0:∀d,(g d).cell? ⟨w.heap.size,0,none⟩=some (.int .i64 m):=fun d=>(HX0w.out.to (hg d)).cell 0 rfl
     have b1:∀d,(g d).cell? ⟨w.heap.size,1,none⟩=some (.int .i64 h):=fun d=>(HX0w.out.to (hg d)).cell 1 rfl
     have a0:∀d,(g d).cell? ⟨bt,ot+k*2,none⟩=some (.slice Aa y.a.length ca):=fun d=>((hg d).cell (p:=⟨bt,ot+k*2,none⟩) HBT.out.1).trans HA0.out
     have a1:∀d,(g d).cell? ⟨bt,ot+k*2+1,none⟩=some (.slice Ab y.b.length cb):=fun d=>((hg d).cell (p:=⟨bt,ot+k*2+1,none⟩) HBT.out.1).trans HA1.out
     (repeat(refine Qah (by rfl) fun Kq hq=>?_;go_big_quiet_step (fail);refine wpQuiet_nil (hq _ ?_);clear hq Kq));refine Qap (by rfl) (by rfl) (fun d hG K Q hK=>?_) (fun v d hG hp Kr hr=>?_)
     ·have hc:=rText_ok (m:=m) (h:=h) (HT1.out.to (hg d)) (HT2.out.to (hg d)) HSY.out.1.1 HSY.out.2.1;go_simp;go_at_call 32;refine(hc).mono ?_;rintro e W1 ⟨v3,rfl,hp1,hb1⟩;go_simp;exact hK _ _ hb1 ((by obtain⟨A',c',e1,e2⟩:=hp1;exact⟨A',c',by rw[e1,HPS.out],by rw[HPS.out] at e2;exact e2.mono (fun i hi _=>Nat.le_trans (hg d).size hi)⟩))
     obtain⟨Ap,cp,rfl,-⟩:=(show ∃A c,v=.tuple #[.slice A ps.length c,.int .i64 (textE y.a y.b m h)]∧_ from hp);(try clear hp);clear hG;go_frame;refine hr _ ?_;clear hr Kr;(repeat(refine Qah (by rfl) fun Kq hq=>?_;go_big_quiet_step (fail);refine wpQuiet_nil (hq _ ?_);clear hq Kq));refine Qcg (by kernel_rfl) (fun d hG=>?_) _
     have HSL6:Hid (Sl (g d) (fun b=>wr.heap.size≤b∧b<(g d).heap.size) Ap cp ps):=Lh (by
      obtain⟨A',c',e1,e2⟩:=(show ∃A c,Value.tuple #[.slice Ap ps.length cp,.int .i64 (textE y.a y.b m h)]=.tuple #[.slice A ps.length c,.int .i64 (textE y.a y.b m h)]∧Sl (g d) (Up wr.heap.size) A c ps from hG 9)
      obtain⟨rfl,rfl⟩:Ap=A'∧cp=c':=by
       have:=congrArg (fun v:Value=>match v with|.tuple cs=>cs.toList|_=>[]) e1
       simp at this
       exact this
      exact e2.mono (fun i hi hl=>⟨hi,hl⟩))
     clear p3 b0 b1 a0 a1;have HBd:=Lh (hg d);clear hG hg hgm;unfold Exit.then;generalize g d=w6 at*;clear g;obtain⟨wk,rfl⟩:∃wk:World,wk=wr:=⟨_,rfl⟩;have HOD:=Lh (HO.out.below HBd.out);have HXS6:=Lh (HXSx.out.to HBd.out);have HV6:Hid (w6.cell? ⟨bv,ov+k,none⟩=some (.int .i64 vk)):=Lh ((HBd.out.cell (p:=⟨bv,ov+k,none⟩) HBT.out.2).trans HEV.out);have HBV:Hid (bv<w6.heap.size∧S<w6.heap.size):=Lh ⟨Nat.lt_of_lt_of_le HBT.out.2 HBd.out.size,Nat.lt_of_lt_of_le HSw.out HBd.out.size⟩;have HB6:Hid (Below wb.heap.size wb w6):=Lh (HBB.out.trans (HBd.out.mono HBB.out.size));have HOB0:Hid (∀g,(Value.slice A3 dn.length c3).ownBlock=some g→g≠S∧(g<wk.heap.size∨w6.heap.size≤g)):=Lh (fun g hg=>⟨HOS.out g hg,.inl (HO.out.lt g hg).2⟩);have HWK6:Hid (wk.heap.size≤w6.heap.size∧wb.heap.size≤wk.heap.size):=Lh ⟨HBd.out.size,HBB.out.size⟩;have hpsc:ps.length≤cp:=HSL6.out.1;have hps9:ps.length≤100000:=(by rw[←HPS.out];exact QcV _ _ _ _);go_wp2_with fail;obtain⟨RS,hRS⟩:∃RS,QaJ m h x.entry (k+1) (if k=0 then nu+ps.length else nu) (if k=0 then su else su+ps.length) (x.vers.drop (k+1)) (x.texts.drop (k+1))++Qaq m h (num+QaA m h x) (l.drop (i+1))=RS:=⟨_,rfl⟩;have HRS:=Lh hRS;rw[hRS] at HD3;clear hRS
     go_loopw [3,4,7,11] (fun v3 v4 v7 v11 wz=>∃(j:Nat) (nv sv:Int) (dq:List PageP),v11=.int .i64 (j:Int)∧j≤ps.length∧v4=.int .i64 nv∧v7=.int .i64 sv∧(0≤nv∧nv≤dq.length∧0≤sv∧sv≤dq.length)∧Hid (nv=if k=0 then nu+j else nu)∧Hid (sv=if k=0 then su else su+j)∧Hid (OwnP wz wb.heap.size 36 v3 dq (Up wb.heap.size))∧ Hid (dq++(QaR x.entry vk nv sv k (ps.drop j)++RS)=Qac m h l)∧Hid (KS (fun b=>b<wb.heap.size∨b=S∨(wk.heap.size≤b∧b<w6.heap.size)) w6 wz)∧Hid (∀g,v3.ownBlock=some g→g≠S∧(g<wk.heap.size∨w6.heap.size≤g))) (fun _ _ _ v11 _=>ps.length-(intOf v11).toNat)
     (case atStart=>exact⟨0,nu,su,dn,rfl,Nat.zero_le _,rfl,rfl,⟨hu1,hu2,hu3,hu4⟩,Lh (by split<;>omega),Lh (by split<;>omega),HOD,HD3,Lh (KS.refl _ _),HOB0⟩);case round=>
      clear HOD HD3 HOB0;obtain⟨j,nv,sv,dq,rfl,hj,rfl,rfl,⟨hv1,hv2,hv3,hv4⟩,HNV,HSV,HO,HD4,HBz,HOB⟩:=hrel;obtain⟨A3,c3,hv3',-,-⟩:=HO.out.len;subst hv3';by_cases hjl:j<ps.length
      ·have hjI:(j:Int)<(ps.length:Int):=by omega
       obtain⟨bp,op,A1,c1,A2,c2,rfl,hbp,-,e0,e1,e2,e3,e4,e5,r1,r2⟩:=Qc1 (HSL6.out.keep (HBz.out.kept.mono (fun _ h=>.inr (.inr h))) HBz.out.size) hjl;have hpd:ps.drop j=ps[j]::ps.drop (j+1):=List.drop_eq_getElem_cons hjl;have hsm:Qer ps[j]:=Qck y.a y.b m h _ (by rw[HPS.out];exact List.getElem_mem hjl);obtain⟨p,hp⟩:∃p,ps[j]=p:=⟨_,rfl⟩;rw[hp] at e0 e1 e2 e3 e4 e5 r1 r2 hpd hsm;obtain⟨n2,hn2⟩:∃n2,(if k=0 then nv+1 else nv)=n2:=⟨_,rfl⟩;obtain⟨s2,hs2⟩:∃s2,(if k=0 then sv else sv+1)=s2:=⟨_,rfl⟩;obtain⟨q,hq⟩:∃q:PageP,⟨n2,s2,x.entry,vk,p.body,p.notes⟩=q:=⟨_,rfl⟩
       have HD5:Hid ((dq++[q])++(QaR x.entry vk n2 s2 k (ps.drop (j+1))++RS)=Qac m h l):=Lh (by
        rw[←HD4.out,hpd,Qbx,hn2,hs2,hq,List.append_assoc];rfl)
       have hdl:dq.length+1≤1000000000:=by
        have h1:=congrArg List.length HD5.out;have h2:=HB.out.pn;rw[←h1,qA,qA] at h2;simp at h2;omega
       have HDL:=Lh hdl;obtain⟨O,hO⟩:∃O,wr.heap.size=O:=⟨_,rfl⟩;obtain⟨wO,hwO⟩:∃wO,wr.alloc (.cells #[.int .i64 p.num,.int .i64 p.suf,.int .i64 p.entry,.int .i64 p.ver,.slice A1 p.body.length c1,.slice A2 p.notes.length c2] 36)=wO:=⟨_,rfl⟩;have hbO:Below wr.heap.size wr wO:=by rw[←hwO];exact bR.alloc nL _
       have hxO:ABox wO O 36 [.int .i64 p.num,.int .i64 p.suf,.int .i64 p.entry,.int .i64 p.ver,.slice A1 p.body.length c1,.slice A2 p.notes.length c2]:=(by rw[←hwO,←hO];exact heap_alloc_new wr _);have h6O:w6.heap.size≤O:=(by rw[←hO];exact HBz.out.size);have HXO:=Lh hxO;have HOO:Hid (OwnP wO wb.heap.size 36 (.slice A3 dq.length c3) dq (fun i=>wb.heap.size≤i∧i≠O)):=Lh ((HO.out.mono (fun i hi hl=>⟨hi,by omega⟩)).below hbO);have HBO:Hid (KS (fun b=>b<wb.heap.size∨b=S∨(wk.heap.size≤b∧b<w6.heap.size)) w6 wO):=Lh (HBz.out.trans (KS.of_below hbO _));have HNS:Hid (¬(O<wb.heap.size∨O=S∨(wk.heap.size≤O∧O<w6.heap.size))):=Lh (by have:=HWK6.out;have:=HBV.out.2;omega);have HR1:Hid (Sl wO (fun b=>wk.heap.size≤b∧b<w6.heap.size) A1 c1 p.body):=Lh (r1.keep (Kept.all hbO) hbO.size);have HR2:Hid (Sl wO (fun b=>wk.heap.size≤b∧b<w6.heap.size) A2 c2 p.notes):=Lh (r2.keep (Kept.all hbO) hbO.size);have H6O:=Lh h6O;have HSM:=Lh hsm;have HQ:=Lh hq;have HN2e:=Lh hn2;have HNB:Hid (0≤n2∧n2≤dq.length+1∧0≤s2∧s2≤dq.length+1):=Lh (by rw[←hn2,←hs2];split<;>omega)
       have HNV2:Hid (n2=if k=0 then nu+((j+1:Nat):Int) else nu):=Lh (by
        have h1:=HNV.out
        rw[←hn2]
        split
        ·rename_i h;rw[if_pos h] at h1;omega
        ·rename_i h;rw[if_neg h] at h1;exact h1)
       have HSV2:Hid (s2=if k=0 then su else su+((j+1:Nat):Int)):=Lh (by
        have h1:=HSV.out
        rw[←hs2]
        split
        ·rename_i h;rw[if_pos h] at h1;exact h1
        ·rename_i h;rw[if_neg h] at h1;omega)
       have HS2e:=Lh hs2;go_upto_if 56 with(fail);(try rw[hO]);(try rw[hwO]);clear e0 e1 e2 e3 e4 e5 r1 r2 hpd hp hq hxO hbO hwO hO hsm;clear HO HBz HD4;go_cut [4,7] from 55 to 60 (fun v4 v7 wx=>v4=.int .i64 n2∧v7=.int .i64 s2∧wx=wO);case first=>
        by_cases hk0:k=0
        ·have hn3:nv+1=n2:=by rw[←HN2e.out,if_pos hk0]
         have hs3:sv=s2:=(by rw[←HS2e.out,if_pos hk0]);have HN3:=Lh hn3;have HS3:=Lh hs3;have hkI0:(k:Int)=0:=(by omega);subst hk0;clear hn3 hs3 hn2 hs2;go_wp2_with fail;go_meet;exact⟨by rw[HN3.out],by rw[HS3.out],rfl⟩
        ·have hn3:nv=n2:=by rw[←HN2e.out,if_neg hk0]
         have hs3:sv+1=s2:=(by rw[←HS2e.out,if_neg hk0]);have HN3:=Lh hn3;have HS3:=Lh hs3;have hkI0:¬(k:Int)=0:=(by omega);clear hn3 hs3 hn2 hs2;go_wp2_with fail;go_meet;exact⟨by rw[HN3.out],by rw[HS3.out],rfl⟩
       case rest=>
        obtain⟨rfl,rfl,rfl⟩:=hcut;obtain⟨wO,rfl⟩:∃wO:World,wO=wc:=⟨_,rfl⟩;have hb2:KS (fun b=>b<wb.heap.size∨b=S∨(wk.heap.size≤b∧b<w6.heap.size)) w6 ((wO.setCell ⟨O,0,none⟩ (.int .i64 n2)).setCell ⟨O,1,none⟩ (.int .i64 s2)):=(HBO.out.trans (KS.setCell _ _ HNS.out)).trans (KS.setCell _ _ HNS.out);have hb3:KS (fun b=>b<wb.heap.size∨b=S∨(wk.heap.size≤b∧b<w6.heap.size)) w6 (((wO.setCell ⟨O,0,none⟩ (.int .i64 n2)).setCell ⟨O,1,none⟩ (.int .i64 s2)).setCell ⟨O,2,none⟩ (.int .i64 x.entry)):=hb2.trans (KS.setCell _ _ HNS.out);have hb4:KS (fun b=>b<wb.heap.size∨b=S∨(wk.heap.size≤b∧b<w6.heap.size)) w6 ((((wO.setCell ⟨O,0,none⟩ (.int .i64 n2)).setCell ⟨O,1,none⟩ (.int .i64 s2)).setCell ⟨O,2,none⟩ (.int .i64 x.entry)).setCell ⟨O,3,none⟩ (.int .i64 vk)):=hb3.trans (KS.setCell _ _ HNS.out);have hx2:=(HXO.out.set 0 (.int .i64 n2)).set 1 (.int .i64 s2);have hx3:=hx2.set 2 (.int .i64 x.entry);have hx4:=hx3.set 3 (.int .i64 vk);have z0:=HXO.out.cell 0 rfl;have f0:=HXO.out.fz 0;have z1:=(HXO.out.set 0 (.int .i64 n2)).cell 1 rfl;have f1:=(HXO.out.set 0 (.int .i64 n2)).fz 1;have z2:=hx2.cell 2 rfl;have f2:=hx2.fz 2;have z3:=hx3.cell 3 rfl;have f3:=hx3.fz 3;have u0:=hx4.cell 0 rfl;have u1:=hx4.cell 1 rfl;have u2:=hx4.cell 2 rfl;have u3:=hx4.cell 3 rfl;have u4:=hx4.cell 4 rfl;have u5:=hx4.cell 5 rfl;have g2:=(show ABox _ S 45 _ from(hb2.block S (.inr (.inl rfl)) HBV.out.2).trans HXS6.out).cell 0 rfl;have g3:=(show ABox _ S 45 _ from(hb3.block S (.inr (.inl rfl)) HBV.out.2).trans HXS6.out).cell 2 rfl;have g4:=hb3.kept.cell (.inl HBVb.out) HV6.out;obtain⟨W4,hW4⟩:∃W4,(((wO.setCell ⟨O,0,none⟩ (.int .i64 n2)).setCell ⟨O,1,none⟩ (.int .i64 s2)).setCell ⟨O,2,none⟩ (.int .i64 x.entry)).setCell ⟨O,3,none⟩ (.int .i64 vk)=W4:=⟨_,rfl⟩;have hkk:∀i,i≠O→W4.heap[i]? =wO.heap[i]? :=fun i hi=>by rw[←hW4];exact(Qaa _ _ _ _ hi).trans ((Qaa _ _ _ _ hi).trans ((Qaa _ _ _ _ hi).trans (Qaa _ _ _ _ hi)))
        have hsz4:W4.heap.size=wO.heap.size:=(by rw[←hW4];simp);have HO4:Hid (OwnP W4 wb.heap.size 36 (.slice A3 dq.length c3) dq (Up wb.heap.size)):=Lh ((HOO.out.kept (fun i hi _=>hkk i hi.2)).mono (fun i hi _=>hi.1));have HR14:Hid (Sl W4 (fun b=>wk.heap.size≤b∧b<w6.heap.size) A1 c1 p.body):=Lh (HR1.out.keep (fun i hi _=>hkk i (by have:=H6O.out;omega)) (Nat.le_of_eq hsz4.symm));have HR24:Hid (Sl W4 (fun b=>wk.heap.size≤b∧b<w6.heap.size) A2 c2 p.notes):=Lh (HR2.out.keep (fun i hi _=>hkk i (by have:=H6O.out;omega)) (Nat.le_of_eq hsz4.symm));rw[hW4] at u0 u1 u2 u3 u4 u5 hb4;have HB4:=Lh hb4;clear hkk hsz4 hx2 hx3 hx4 hb2 hb3 hb4;have hba:Below W4.heap.size W4 (W4.alloc (.cells #[.int .i64 n2,.int .i64 s2,.int .i64 x.entry,.int .i64 vk,.slice A1 p.body.length c1,.slice A2 p.notes.length c2] 36)):=bR.alloc nL _;have HWZ:Hid (wb.heap.size≤W4.heap.size):=Lh (by have:=HB6.out.size;have:=HB4.out.size;omega);have HW6:Hid (w6.heap.size≤W4.heap.size):=Lh HB4.out.size;have HWK:Hid (wb.heap.size≤wk.heap.size):=Lh HBB.out.size;have HO5:=Lh (HO4.out.below hba)
        have HRE:Hid (Rep.R (W4.alloc (.cells #[.int .i64 n2,.int .i64 s2,.int .i64 x.entry,.int .i64 vk,.slice A1 p.body.length c1,.slice A2 p.notes.length c2] 36)) (fun b=>some b≠(Value.slice A3 dq.length c3).ownBlock) [.int .i64 n2,.int .i64 s2,.int .i64 x.entry,.int .i64 vk,.slice A1 p.body.length c1,.slice A2 p.notes.length c2] (⟨q⟩:Av PageP (Up wb.heap.size))):=Lh (by
         rw[←HQ.out]
         have hno:∀i,(wk.heap.size≤i∧i<w6.heap.size)→some i≠(Value.slice A3 dq.length c3).ownBlock∧wb.heap.size≤i:=fun i hi=>⟨fun e=>by have:=HOB.out i e.symm;omega,by have:=HWK.out;omega⟩
         exact⟨_,_,rfl,⟨A1,c1,rfl,(HR14.out.keep (Kept.all hba) hba.size).mono (fun i hi _=>hno i hi),(show p.body.length<9223372036854775808 by have:=HSM.out.1;omega)⟩,⟨A2,c2,rfl,(HR24.out.keep (Kept.all hba) hba.size).mono (fun i hi _=>hno i hi),(show p.notes.length<9223372036854775808 by have:=HSM.out.2;omega)⟩⟩)
        have hml:(dq.map (Av.mk:PageP→Av PageP (Up wb.heap.size))).length=dq.length:=qM _;have HML:=Lh hml;clear hba hml
        go_wp2_with (first|(at_builtin;(try rw[hW4]);refine Qan (α:=Av PageP (Up wb.heap.size)) _ rfl (.tmp 74) (.tmp 76) 29 rfl wb.heap.size 36 (.agg #[.int .i64 0,.int .i64 0,.int .i64 0,.int .i64 0,.slice none 0 0,.slice none 0 0]) 80 Tryz.underlying29 Qcx rfl (show 0<6 by decide) (.slice A3 dq.length c3) (dq.map Av.mk) rfl HO5.out.own W4.heap.size _ ⟨q⟩ (0,0) 36 rfl (heap_alloc_new W4 _) HRE.out (by rw[HML.out];have:=HDL.out;omega) (by rw[HML.out];have:=HDL.out;omega) (by have:=HWZ.out;simp;omega) _ rfl ?_;intro g5 p5 w5 hown5 hg5 hat5 hlt5;rw[HML.out] at hown5 ⊢;have HPN:=Lh (HO5.out.pushed hown5 (fun k hk=>by cases hk;exact hat5) (show wb.heap.size≤_ by have:=HWZ.out;simp;omega));have HBN:Hid (KS (fun b=>b<wb.heap.size∨b=S∨(wk.heap.size≤b∧b<w6.heap.size)) w6 w5):=Lh ((HB4.out.trans (KS.alloc _)).trans (KS.grown hg5 (fun k hk hS=>by have h1:=HOB.out k hk;have h2:=HO4.out.lt k hk;omega)));have HOBN:Hid (∀g,(Value.slice (some ⟨g5,0,none⟩) (dq.length+1) p5).ownBlock=some g→g≠S∧(g<wk.heap.size∨w6.heap.size≤g)):=Lh (fun g hg=>by have hg9:g5=g:=(by simpa[Value.ownBlock] using hg);subst hg9;rcases hat5 with h|h;exact HOB.out _ h;have h1:=HW6.out;have h2:=HBV.out.2;simp at h;omega);clear hown5 hg5 hat5 hlt5)|fail)
        go_roundw;(case rel=>exact⟨j+1,n2,s2,dq++[q],by go_num,by omega,rfl,rfl,by have:=HNB.out;rw[qA];simp;omega,HNV2,HSV2,HPN,HD5,HBN,HOBN⟩);case measure=>(first|(simp[intOf];done)|(simp[intOf];omega))
      ·obtain rfl:j=ps.length:=by omega
       have HDR:Hid (dq++(QaJ m h x.entry (k+1) nv sv (x.vers.drop (k+1)) (x.texts.drop (k+1))++Qaq m h (num+QaA m h x) (l.drop (i+1)))=Qac m h l):=Lh (by
        have h1:=HD4.out
        rwa [List.drop_length,QaR,List.nil_append,←HRS.out,←HNV.out,←HSV.out] at h1)
       have HNU2:Hid (nv=if k+1=0 then num else num+QaA m h x):=Lh (by
        rw[if_neg (by omega),HNV.out]
        have h1:=HNU.out
        by_cases hk0:k=0
        ·rw[if_pos hk0] at h1 ⊢;rw[h1,HPZ.out hk0]
        ·rw[if_neg hk0] at h1 ⊢;exact h1)
       have HBX:Hid (KS (fun b=>b<wb.heap.size∨b=S) ws wr):=Lh (HBx.out.trans ((KS.of_below HBd.out _).trans (HBz.out.mono (fun i hi _=>hi.elim .inl (fun h=>.inr (.inl h))))));have HOS2:Hid (∀g,(Value.slice A3 dq.length c3).ownBlock=some g→g≠S):=Lh (fun g hg=>(HOB.out g hg).1);have hjI:¬(ps.length:Int)<(ps.length:Int):=(by omega);go_wp2_with fail;go_roundw;(case rel=>exact⟨k+1,nv,sv,dq,by go_num,by omega,rfl,rfl,⟨hv1,hv2,hv3,hv4⟩,HNU2,HO,HDR,HBX,HOS2⟩);case measure=>(first|(simp[intOf];done)|(simp[intOf];omega))
    ·obtain rfl:k=x.texts.length:=by omega
     have HNX:Hid (nu=num+QaA m h x):=Lh (by
      have h1:=HNU.out
      by_cases h0:x.texts.length=0
      ·rw[if_pos h0] at h1
       have h2:QaA m h x=0:=(by unfold QaA;rw[List.eq_nil_of_length_eq_zero h0])
       rw[h1,h2];simp
      ·rwa [if_neg h0] at h1)
     have HDR:Hid (dn++Qaq m h nu (l.drop (i+1))=Qac m h l):=Lh (by
      have h1:=HD2.out
      rwa [List.drop_length,QaJ,List.nil_append,←HNX.out] at h1)
     have hkI:¬(x.texts.length:Int)<(x.texts.length:Int):=(by omega);go_wp2_with fail;go_roundw;(case rel=>exact⟨i+1,nu,dn,by go_num,by omega,rfl,hu1,hu2,HO,HDR,HBB⟩);case measure=>(first|(simp[intOf];done)|(simp[intOf];omega))
  ·obtain rfl:i=n:=by omega
   have HFI:Hid (done=Qac m h l):=Lh (by
    have h1:=HD.out
    rwa [←HN.out,List.drop_length,Qaq,List.append_nil] at h1)
   have HBE:=Lh (HBA.out.trans (HBl.out.mono HBA.out.size));have HSZ:=Lh HBA.out.size;go_wp2_with fail;go_ret;exact⟨_,rfl,by rw[←HFI.out];exact Qcz HO.out HSZ.out,HBE.out⟩
theorem versG_nodup (i j:Nat)(hi:i≤3)(hj:j≤2):(Qb2 i j).Nodup:=by
 unfold Qb2;refine List.nodup_cons.2 ⟨fun hm=>?_,?_⟩
 ·obtain⟨k,hk,e⟩:=List.mem_map.1 hm;have:=List.mem_range.1 hk;omega
 ·rw[List.nodup_iff_pairwise_ne,List.pairwise_map];refine List.Pairwise.imp_of_mem (R:=(· < ·)) (fun {a b} _ _ hab=>?_) List.pairwise_lt_range;omega


theorem Qen (m h e:Int):∀(ts:List TextP) (vs:List Int) (c:CoreP),c∈coreV m h e vs ts→c.body.length≤1048576∧c.notes.length≤1048576
 |[],vs,c,hc=>by simp[coreV] at hc
 |t::ts,vs,c,hc=>by
  rw[coreV] at hc;rcases List.mem_append.1 hc with h1|h1
  ·obtain⟨p,hp,rfl⟩:=List.mem_map.1 h1;exact Qck t.a t.b m h p hp
  ·exact Qen m h e ts vs.tail c h1
theorem pages_smallB (m h:Int)(l:List SectP):∀p∈Qac m h l,Qer p:=by
 intro p hp;have hc:p.core∈coreS m h l:=by rw[←Qd3];exact List.mem_map_of_mem hp
 have hs:∀c∈coreS m h l,c.body.length≤1048576∧c.notes.length≤1048576:=by
  intro c hc;obtain⟨s,-,hs⟩:=List.mem_flatMap.1 hc;exact Qen m h s.entry s.texts s.vers c hs
 exact hs _ hc
set_option maxRecDepth 100000 in
theorem Qb5 (A:Option Addr)(c:Nat)(l:List SectP)(m h e:Int)(w:World)(hs:Sl w (fun b=>b<w.heap.size) A c l)(h63:l.length≤1073741824):
 Calls Tryz.prog 46 #[.agg #[.int .i64 m,.int .i64 h,.slice A l.length c],.int .i64 e] w fun x w'=>x=.returned (.int .i64 (QaC l e))∧Below w.heap.size w w':=by
 obtain⟨wb,hwb⟩:∃wb,w.alloc (.cells #[.int .i64 m,.int .i64 h,.slice A l.length c] 27)=wb:=⟨_,rfl⟩;have hba:Below w.heap.size w wb:=by rw[←hwb];exact bR.alloc nL _
 have hx0:ABox wb w.heap.size 27 [.int .i64 m,.int .i64 h,.slice A l.length c]:=by rw[←hwb];exact heap_alloc_new w _
 have c2:=hx0.cell 2 rfl;have HS:=Lh (hs.to hba);have HB:=Lh hba;have hlc:l.length≤c:=hs.1;clear hs hba hx0;go_enter Tryz.func46,Tryz.ntmps46;go_upto_region 1 with(fail);(try rw[hwb]);clear hwb;go_wp2_with fail;go_loopw [5] (fun i wr=>∃k:Nat,k≤l.length∧i=.int .i64 k∧Hid (∀i (hi:i<l.length),i<k→l[i].entry≠e)∧wr=wb) (fun i _=>l.length-(intOf i).toNat);(case atStart=>exact⟨0,Nat.zero_le _,rfl,Lh (fun i hi h=>absurd h (Nat.not_lt_zero _)),rfl⟩);case round=>
  obtain⟨k,hk,rfl,HN,rfl⟩:=hrel;by_cases hlt:k<l.length
  ·obtain⟨b,o,Ag,cg,An,cn,rfl,_,hbl,k0,-,-,-,-,-,-⟩:=Qbv HS.out hlt;have hkl:(k:Int)<(l.length:Int):=(by omega);have HX:Hid (∃x,l[k]=x):=Lh ⟨_,rfl⟩;obtain⟨x,hx⟩:=HX.out;have HXE:=Lh hx;rw[hx] at k0;clear hx HX;by_cases hq:x.entry=e
   ·have HF:Hid (QaC l e=(k:Int)):=Lh (Qdb hlt (by rw[HXE.out];exact hq) (fun i hi=>HN.out i (by omega) hi));go_wp2_with fail;go_ret;exact⟨by rw[HF.out];rfl,HB.out⟩
   ·have HN2:Hid (∀i (hi:i<l.length),i<k+1→l[i].entry≠e):=Lh (fun i hi h=>by
     by_cases hik:i=k
     ·subst hik;rw[HXE.out];exact hq
     ·exact HN.out i hi (by omega))
    go_wp2_with fail;go_roundw;(case rel=>exact⟨k+1,by omega,by go_num,HN2,trivial⟩);case measure=>simp[intOf];omega
  ·have HF:Hid (QaC l e= -1):=Lh (findP_none fun i hi=>HN.out i hi (by omega));go_wp2_with fail;go_ret;exact⟨by rw[HF.out];rfl,HB.out⟩
theorem not_take {l:List Int}(h:l.Nodup){q:Nat}(hq:q<l.length):l[q]∉l.take q:=by
 intro hm;obtain⟨i,hi,e⟩:=List.getElem_of_mem hm;rw[qK] at hi;rw[List.getElem_take] at e;exact List.pairwise_iff_getElem.1 h i q (by omega) hq (by omega) e
theorem versG_range {i j:Nat}(hi:i≤3)(hj:j≤2):∀v∈Qb2 i j,0≤v∧v≤2147483647:=by
 intro v hv;unfold Qb2 at hv;rcases List.mem_cons.1 hv with rfl|hv
 ·omega
 ·obtain⟨k,hk,rfl⟩:=List.mem_map.1 hv;rw[List.mem_range] at hk;omega
structure ChkS (f k:Nat)(l:List SectP)(s:SectP):Prop where
 e0:0≤s.entry
 e1:s.entry≤65535
 fd:QaC l s.entry=(k:Int)
 fr:s.frozen=decide (k<f)
 n1:1≤s.vers.length
 n3:s.vers.length≤3
 nt:s.texts.length=s.vers.length
 nf:s.frozen=false→s.vers.length=1
 rg:∀v∈s.vers,0≤v∧v≤2147483647
 nd:s.vers.Nodup
 g:∀t∈s.texts,GText t.a t.b
theorem GBk.chk {m h:Int}{l:List SectP}(H:GBk m h l):∃f,∀k (hk:k<l.length),ChkS f k l l[k]:=by
 obtain⟨f,hf⟩:=H.s;have hn:=H.n;refine⟨f,fun k hk=>?_⟩;obtain⟨⟨d,hd,he⟩,h2,j,h3,h4,h5,h6,h7⟩:=hf k hk;have hvl:l[k].vers.length=j+1:=by rw[h5,QbP]
 refine⟨by omega,by omega,Qdb hk rfl fun i hi e=>?_,h2,by omega,by omega,by omega,fun hfr=>by have:=h4 hfr;omega,by rw[h5];exact versG_range (by omega) h3,by rw[h5];exact versG_nodup k j (by omega) h3,h7⟩;obtain⟨⟨d2,hd2,he2⟩,-⟩:=hf i (by omega);omega
theorem sectsB_few (m h:Int):∀(l:List SectP) (num:Int),(∀s∈l,s.texts.length≤20)→(Qaq m h num l).length≤2000000*l.length
 |[],num,_=>by simp[Qaq]
 |s::l,num,hs=>by
  rw[Qaq,qA,qC];have h1:=QdY m h s.entry s.texts 0 num 0 s.vers;have h2:=sectsB_few m h l (num+QaA m h s) (fun x hx=>hs x (by simp[hx]));have h3:=hs s (by simp);omega
theorem GBk.noerr {m h:Int}{l:List SectP}(H:GBk m h l):QdC m h l=0:=by
 obtain⟨f,hf⟩:=H.chk;have hz:=H.siz
 have hu:UptoS m h l l.length:=fun k hk _=>by
  have hc:=hf k hk;refine OkS.sec ⟨⟨hc.e0,hc.e1⟩,by rw[hc.fd];omega,fun h=>?_,by have:=hc.n1;omega,hc.nt.symm,fun h=>by have:=hc.nf h.2;omega,by have:=hc.n3;omega,UptoV.all hc.nt.symm fun q hq ht _=>?_⟩
  ·have h1:k<f:=of_decide_eq_true (hc.fr▸h.1);have h2:=h.2;unfold QcL at h2;obtain⟨x,hx,h3⟩:=List.any_eq_true.1 h2;obtain⟨j,hj,rfl⟩:=List.getElem_of_mem hx;rw[qK] at hj;rw[List.getElem_take] at h3;have h4:=(hf j (by omega)).fr;rw[decide_eq_true (show j<f by omega)] at h4;rw[h4] at h3;exact absurd h3 (by decide)
  ·unfold verX;rw[if_neg (not_not_intro (hc.rg _ (List.getElem_mem hq))),if_neg (not_take hc.nd hq)];exact(hc.g _ (List.getElem_mem ht)).wrong ⟨hz.m1,hz.m2⟩ ⟨hz.h1,hz.h2⟩
 rw[hu.all ⟨hz.m1,hz.m2⟩ ⟨hz.h1,hz.h2⟩,if_neg (by have:=H.tame.pages hz;omega)]
structure GoodS (m h:Int)(s:SectP):Prop where
 e:0≤s.entry∧s.entry≤65535
 n:s.vers.length≠0
 nt:s.vers.length=s.texts.length
 nf:s.frozen=false→s.vers.length≤1
 lim:s.vers.length≤100
 r:∀v∈s.vers,0≤v∧v≤2147483647
 d:s.vers.Nodup
 w:∀t∈s.texts,Qau m h t.a t.b=0
structure GoodB (m h:Int)(l:List SectP):Prop where
 gm:500≤m∧m≤2000
 gh:4≤h∧h≤100
 s:∀s∈l,GoodS m h s
 d:(l.map (·.entry)).Nodup
 f:l.Pairwise fun a b=>b.frozen=true→a.frozen=true
 p:(Qac m h l).length≤16384
theorem versE_zero {m h:Int}{s:SectP}(hn:s.vers.length=s.texts.length)(H:Qc5 m h s=0):(∀v∈s.vers,0≤v∧v≤2147483647)∧s.vers.Nodup∧∀t∈s.texts,Qau m h t.a t.b=0:=by
 have h1:∀q (hq:q<s.vers.length),(0≤s.vers[q]∧s.vers[q]≤2147483647)∧s.vers[q]∉s.vers.take q∧Qau m h (s.texts[q]'(by omega)).a (s.texts[q]'(by omega)).b=0:=fun q hq=>by
  have h2:=QcQ H q hq;have ht:q<s.texts.length:=(by omega);rw[List.getD_eq_getElem?_getD,qG hq,List.getD_eq_getElem?_getD,qG ht] at h2;simp only[Option.getD_some] at h2;unfold verX at h2;split at h2
  ·exact absurd h2 (by decide)
  ·rename_i h3;split at h2
   ·exact absurd h2 (by decide)
   ·rename_i h4;exact⟨Decidable.not_not.1 h3,h4,h2⟩
 refine⟨fun v hv=>?_,?_,fun t ht=>?_⟩
 ·obtain⟨q,hq,rfl⟩:=List.getElem_of_mem hv;exact(h1 q hq).1
 ·rw[List.nodup_iff_pairwise_ne,List.pairwise_iff_getElem];intro i j hi hj hij e;refine(h1 j hj).2.1 (List.mem_iff_getElem.2 ⟨i,by rw[qK];omega,?_⟩);rw[List.getElem_take];exact e
 ·obtain⟨q,hq,rfl⟩:=List.getElem_of_mem ht;exact(h1 q (by omega)).2.2
theorem findP_le {l:List SectP}{e:Int}{i:Nat}(hi:i<l.length)(he:l[i].entry=e):QaC l e≤(i:Int):=by
 rcases Qa6 l e with h|⟨k,hk,h,-⟩
 ·rw[h];omega
 ·rw[h];by_cases hik:k≤i
  ·omega
  ·exfalso
   have h2:l.findIdx (fun s=>decide (s.entry=e))=k:=by
    unfold QaC at h;split at h<;>omega
   have h3:=List.not_of_lt_findIdx (p:=fun s:SectP=>decide (s.entry=e)) (xs:=l) (i:=i) (by omega);simp[he] at h3
theorem chkE_good {m h:Int}{l:List SectP}(H:QdC m h l=0):GoodB m h l:=by
 unfold QdC at H;split at H
 ·exact absurd H (by decide)
 rename_i h1;split at H
 ·exact absurd H (by decide)
 rename_i h2;split at H
 ·rename_i h3;exact absurd H h3
 rename_i h3;split at H
 ·exact absurd H (by decide)
 rename_i h4
 have h5:∀k (hk:k<l.length),OkS m h l k l[k]:=fun k hk=>by
  have:=QcQ (Decidable.not_not.1 h3) k hk;rw[List.getD_eq_getElem?_getD,qG hk] at this;exact secX_ok this
 refine⟨Decidable.not_not.1 h1,Decidable.not_not.1 h2,fun s hs=>?_,?_,?_,by omega⟩
 ·obtain⟨k,hk,rfl⟩:=List.getElem_of_mem hs;have H:=h5 k hk;obtain⟨r,d,w⟩:=versE_zero H.nt H.v;exact⟨H.e,H.n,H.nt,fun hf=>by have:=H.nf;have h9:¬1<l[k].vers.length:=fun h9=>this ⟨h9,hf⟩;omega,by have:=H.lim;omega,r,d,w⟩
 ·rw[List.nodup_iff_pairwise_ne,List.pairwise_iff_getElem];intro i j hi hj hij e;rw[qM] at hi hj;rw[List.getElem_map,List.getElem_map] at e;have:=findP_le hi e;have:=(h5 j hj).f;omega
 ·rw[List.pairwise_iff_getElem];intro i j hi hj hij e;have h6:=(h5 j hj).o;cases hfi:l[i].frozen
  ·exfalso;refine h6 ⟨e,?_⟩;unfold QcL;exact List.any_eq_true.2 ⟨l[i],List.mem_iff_getElem.2 ⟨i,by rw[qK];omega,List.getElem_take ..⟩,by rw[hfi];rfl⟩
  ·rfl
theorem GoodB.noerr {m h:Int}{l:List SectP}(H:GoodB m h l):QdC m h l=0:=by
 have hd:=List.pairwise_iff_getElem.1 (List.nodup_iff_pairwise_ne.1 H.d);have hf:=List.pairwise_iff_getElem.1 H.f
 have hu:UptoS m h l l.length:=fun k hk _=>by
  have hc:=H.s _ (List.getElem_mem hk);refine OkS.sec ⟨hc.e,?_,fun h=>?_,hc.n,hc.nt,fun h=>by have:=hc.nf h.2;omega,by have:=hc.lim;omega,UptoV.all hc.nt fun q hq ht _=>?_⟩
  ·rw[Qdb hk rfl fun i hi e=>?_]
   ·omega
   ·have:=hd i k (by rw[qM];omega) (by rw[qM];omega) hi;rw[List.getElem_map,List.getElem_map] at this;exact this e
  ·have h2:=h.2;unfold QcL at h2;obtain⟨x,hx,h3⟩:=List.any_eq_true.1 h2;obtain⟨j,hj,rfl⟩:=List.getElem_of_mem hx;rw[qK] at hj;rw[List.getElem_take,hf j k (by omega) hk (by omega) h.1] at h3;exact absurd h3 (by decide)
  ·unfold verX;rw[if_neg (not_not_intro (hc.r _ (List.getElem_mem hq))),if_neg (not_take hc.d hq)];exact hc.w _ (List.getElem_mem ht)
 rw[hu.all H.gm H.gh,if_neg (by have:=H.p;omega)]
theorem findP_new {l:List SectP}{e:Int}(h:QaC l e= -1):∀s∈l,s.entry≠e:=by
 intro s hs he;obtain⟨i,hi,rfl⟩:=List.getElem_of_mem hs;unfold QaC at h;split at h
 ·omega
 ·rename_i h2;exact h2 (List.findIdx_lt_length_of_exists ⟨_,List.getElem_mem hi,by simpa using he⟩)
theorem GoodB.add {m h e v:Int}{l:List SectP}{t:TextP}(H:GoodB m h l)(hf:QaC l e= -1)(he:0≤e∧e≤65535)(hv:0≤v∧v≤2147483647)(hw:Qau m h t.a t.b=0)(hp:(Qac m h (l++[⟨e,false,[v],[t]⟩])).length≤16384):GoodB m h (l++[⟨e,false,[v],[t]⟩]):=by
 refine⟨H.gm,H.gh,fun s hs=>?_,?_,?_,hp⟩
 ·rcases List.mem_append.1 hs with h1|h1
  ·exact H.s s h1
  ·rw[List.mem_singleton] at h1;subst h1;exact⟨he,by simp,by simp,fun _=>by simp,by simp,fun x hx=>by rw[List.mem_singleton] at hx;subst hx;exact hv,by simp,fun x hx=>by rw[List.mem_singleton] at hx;subst hx;exact hw⟩
 ·rw[List.map_append,List.nodup_append];refine⟨H.d,by simp,fun a ha b hb=>?_⟩;obtain⟨s,hs,rfl⟩:=List.mem_map.1 ha;simp at hb;subst hb;exact findP_new hf s hs
 ·rw[List.pairwise_append];exact⟨H.f,by simp,fun a _ b hb hbf=>by rw[List.mem_singleton] at hb;subst hb;cases hbf⟩
theorem GoodB.set {m h:Int}{l:List SectP}{k:Nat}(H:GoodB m h l)(hk:k<l.length){s:SectP}(he:s.entry=l[k].entry)(hfr:s.frozen=l[k].frozen)(hs:GoodS m h s)(hp:(Qac m h (l.set k s)).length≤16384):GoodB m h (l.set k s):=by
 refine⟨H.gm,H.gh,fun x hx=>?_,?_,?_,hp⟩
 ·rcases List.mem_or_eq_of_mem_set hx with h1|h1
  ·exact H.s x h1
  ·subst h1;exact hs
 ·have:(l.set k s).map (·.entry)=l.map (·.entry):=by
   rw[List.map_set,he];have h1:l[k].entry=(l.map (·.entry))[k]'(by rw[qM];exact hk):=(by rw[List.getElem_map]);rw[h1,List.set_getElem_self]
  rw[this];exact H.d
 ·have hf:(l.map (·.frozen)).Pairwise fun a b=>b=true→a=true:=List.pairwise_map.2 H.f
  have:(l.set k s).map (·.frozen)=l.map (·.frozen):=by
   rw[List.map_set,hfr];have h1:l[k].frozen=(l.map (·.frozen))[k]'(by rw[qM];exact hk):=(by rw[List.getElem_map]);rw[h1,List.set_getElem_self]
  rw[←this] at hf;exact List.pairwise_map.1 hf
theorem GoodS.corr {m h v:Int}{s:SectP}{t:TextP}(H:GoodS m h s)(hv:0≤v∧v≤2147483647)(hn:v∉s.vers)(hw:Qau m h t.a t.b=0)(hl:(Qaz s v t).vers.length≤100):GoodS m h (Qaz s v t):=by
 have h1:(Qaz s v t).vers=(if s.frozen then s.vers else[])++[v]:=rfl;have h2:(Qaz s v t).texts=(if s.frozen then s.texts else[])++[t]:=rfl;have h3:(Qaz s v t).frozen=s.frozen:=rfl;refine⟨H.e,by rw[h1];simp,?_,fun hf=>?_,hl,fun x hx=>?_,?_,fun x hx=>?_⟩
 ·rw[h1,h2];split
  ·simp[H.nt]
  ·simp
 ·rw[h3] at hf;rw[h1,hf];simp
 ·rw[h1] at hx;rcases List.mem_append.1 hx with h4|h4
  ·split at h4
   ·exact H.r x h4
   ·cases h4
  ·rw[List.mem_singleton] at h4;subst h4;exact hv
 ·rw[h1,List.nodup_append];refine⟨?_,by simp,fun a ha b hb=>?_⟩
  ·split
   ·exact H.d
   ·simp
  ·rw[List.mem_singleton] at hb;subst hb;split at ha
   ·exact fun e=>hn (e▸ha)
   ·cases ha
 ·rw[h2] at hx;rcases List.mem_append.1 hx with h4|h4
  ·split at h4
   ·exact H.w x h4
   ·cases h4
  ·rw[List.mem_singleton] at h4;subst h4;exact hw
theorem versB_lens (m h e:Int):∀(ts:List TextP) (k:Nat) (num suf:Int) (vs:List Int),(QaJ m h e k num suf vs ts).length=(ts.map fun t=>(Qak t.a t.b m h).length).sum
 |[],_,_,_,_=>by simp[QaJ]
 |t::ts,k,num,suf,vs=>by rw[QaJ,qA,QcC,versB_lens m h e ts,List.map_cons,List.sum_cons]
theorem QcZ (m h:Int):∀(l:List SectP) (num:Int),(Qaq m h num l).length=(l.map fun s=>(s.texts.map fun t=>(Qak t.a t.b m h).length).sum).sum
 |[],_=>by simp[Qaq]
 |s::l,num=>by rw[Qaq,qA,versB_lens,QcZ m h l,List.map_cons,List.sum_cons]
theorem sum_sub {α:Type}(f:α→Nat):∀{a b:List α},a.Sublist b→(a.map f).sum≤(b.map f).sum:=by
 intro a b h;induction h with
 |slnil=>simp
 |cons x _ ih=>simp only[List.map_cons,List.sum_cons];omega
 |cons_cons x _ ih=>simp only[List.map_cons,List.sum_cons];omega
theorem GoodB.sub {m h:Int}{l l':List SectP}(H:GoodB m h l)(hs:l'.Sublist l):GoodB m h l':=
 ⟨H.gm,H.gh,fun s hx=>H.s s (hs.subset hx),(hs.map _).nodup H.d,H.f.sublist hs,by
  have h1:=H.p
  have h2:=sum_sub (fun s:SectP=>(s.texts.map fun t=>(Qak t.a t.b m h).length).sum) hs
  unfold Qac at h1 ⊢
  rw[QcZ] at h1 ⊢
  omega⟩
theorem GoodB.strike {m h:Int}{l:List SectP}(H:GoodB m h l)(k:Nat):GoodB m h (QaM l k):=by
 unfold QaM;split
 ·exact H
 ·exact H.sub (List.eraseIdx_sublist l k)
theorem GoodB.frz {m h:Int}{l:List SectP}(H:GoodB m h l):GoodB m h (l.map Go.Proofs.YtakaielemicpkaaGreatDoor.frz):=by
 refine⟨H.gm,H.gh,fun s hs=>?_,?_,?_,?_⟩
 ·obtain⟨x,hx,rfl⟩:=List.mem_map.1 hs;have h:=H.s x hx;exact⟨h.e,h.n,h.nt,(fun hf=>by cases hf),h.lim,h.r,h.d,h.w⟩
 ·rw[List.map_map];exact H.d
 ·rw[List.pairwise_map];exact H.f.imp fun _ _=>rfl
 ·have h1:=H.p;unfold Qac at h1 ⊢;rw[QcZ] at h1 ⊢;rw[List.map_map];exact h1
end Go.Proofs.YtakaielemicpkaaGreatDoor
