/- Texts of VwCLs. -/
import Derived.Test.YtegaapiocihcpaaGreatDoorVZc8
set_option maxHeartbeats 32000000
namespace Go.Proofs.YtegaapiocihcpaaGreatDoor
open Go.RowKit
def Qca (nb nn:Nat):Nat:=nb+nn+min nn 1
theorem rused_any (A B:Option Addr)(c d nb nn:Nat)(w:World)(h1:nb≤1048576)(h2:nn≤1048576):
 Calls Tryz.prog 164 #[.agg #[.int .i64 0,.int .i64 0,.int .i64 0,.int .i64 0,.slice A nb c,.slice B nn d]] w fun e w'=>e=.returned (.int .i64 (Qca nb nn:Nat))∧Below w.heap.size w w':=by
 obtain⟨wb,hwb⟩:∃wb,w.alloc (.cells #[.int .i64 0,.int .i64 0,.int .i64 0,.int .i64 0,.slice A nb c,.slice B nn d] 43)=wb:=⟨_,rfl⟩;have hba:Below w.heap.size w wb:=by rw[←hwb];exact bR.alloc nL _
 have hx0:ABox wb w.heap.size 43 [.int .i64 0,.int .i64 0,.int .i64 0,.int .i64 0,.slice A nb c,.slice B nn d]:=by rw[←hwb];exact heap_alloc_new w _
 have x4:=hx0.cell 4 rfl;have x5:=hx0.cell 5 rfl;have HB:=Lh hba;clear hba hx0;go_enter Tryz.func164,Tryz.ntmps164;go_upto_region 1 with(fail);(try rw[hwb]);clear hwb;go_wp2_with fail;go_ret;exact⟨congrArg (fun z=>Ending.returned (.int .i64 z)) (show((nb:Int)+(nn:Int)+min (nn:Int) 1)=((Qca nb nn:Nat):Int) by unfold Qca;omega),HB.out⟩
def Qd8 (h nb nn q:Nat)(x:LineP):Bool:=QbX h nb nn (nn+q) x
set_option maxRecDepth 100000 in
theorem rfits_any (A B Ag An:Option Addr)(c d cg cn nb nn q h:Nat)(x:LineP)(w:World)(h1:nb≤1048576)(h2:nn≤1048576)(h3:q≤1048576)(h4:h≤100)(hxn:x.notes.length≤9223372036854775807):
 Calls Tryz.prog 163 #[.agg #[.int .i64 0,.int .i64 0,.int .i64 0,.int .i64 0,.slice A nb c,.slice B nn d],.agg #[.int .i64 x.fr,.int .i64 x.un,.slice Ag x.gaps.length cg,.slice An x.notes.length cn],.int .i64 (q:Int),.int .i64 (h:Int)] w fun e w'=>e=.returned (.bool (Qd8 h nb nn q x))∧Below w.heap.size w w':=by
 obtain⟨wb,hwb⟩:∃wb,(w.alloc (.cells #[.int .i64 0,.int .i64 0,.int .i64 0,.int .i64 0,.slice A nb c,.slice B nn d] 43)).alloc (.cells #[.int .i64 x.fr,.int .i64 x.un,.slice Ag x.gaps.length cg,.slice An x.notes.length cn] 56)=wb:=⟨_,rfl⟩;have hba:Below w.heap.size w wb:=by rw[←hwb];exact(bR.alloc nL _).alloc (by simp) _
 have hx0:ABox wb w.heap.size 43 [.int .i64 0,.int .i64 0,.int .i64 0,.int .i64 0,.slice A nb c,.slice B nn d]:=by rw[←hwb];exact(Below.heap_alloc _ _ _ (by simp)).trans (heap_alloc_new w _)
 have hx1:ABox wb (w.heap.size+1) 56 [.int .i64 x.fr,.int .i64 x.un,.slice Ag x.gaps.length cg,.slice An x.notes.length cn]:=by rw[←hwb];exact Qaq (by simp)
 have HU:=Lh (rused_any A B c d nb nn wb h1 h2);have y3:=hx1.cell 3 rfl;have HB:=Lh hba;have HX0:=Lh hx0;have x0:=hx0.cell 0 rfl;have x1:=hx0.cell 1 rfl;have x2:=hx0.cell 2 rfl;have x3:=hx0.cell 3 rfl;have x4:=hx0.cell 4 rfl;have x5:=hx0.cell 5 rfl;clear hba hx0 hx1;go_enter Tryz.func163,Tryz.ntmps163;go_upto_region 1 with(fail);(try rw[hwb]);clear hwb;by_cases hn:x.notes=[]
 ·have hnl:(x.notes.length:Int)=0:=by rw[hn];rfl
  have HR:Hid (Qd8 h nb nn q x=decide ((Qca nb nn:Int)≤(h:Int)-1)):=Lh (by
   unfold Qd8 QbX Qcb Qca
   rw[if_pos hn]
   rw[Bool.eq_iff_iff,decide_eq_true_iff,decide_eq_true_iff]
   omega)
  have hu:Qca nb nn≤2097153:=(by unfold Qca;omega);clear hn;go_wp2_with (first|(go_at_call 164;refine HU.out.mono ?_;rintro e w' ⟨rfl,hb2⟩;have HB2:=Lh (HB.out.trans (hb2.mono HB.out.size));clear hb2)|fail);go_ret;exact⟨Qaw HR.out.symm,HB2.out⟩
 ·have hnl:¬(x.notes.length:Int)=0:=by have:=List.length_pos_iff.2 hn;omega
  have HR:Hid (Qd8 h nb nn q x=(decide (q=0)&&decide ((Qca nb nn:Int)+1+(1-((min nn 1:Nat):Int))+1≤(h:Int)))):=Lh (by
   unfold Qd8 QbX Qcb Qca
   rw[if_neg hn]
   rw[Bool.eq_iff_iff,Bool.and_eq_true,Bool.and_eq_true,decide_eq_true_iff,decide_eq_true_iff,decide_eq_true_iff,decide_eq_true_iff]
   omega)
  have hu:Qca nb nn≤2097153:=(by unfold Qca;omega);clear hn;by_cases hq:q=0
  ·subst hq;go_wp2_with (first|(go_at_call 164;refine HU.out.mono ?_;rintro e w' ⟨rfl,hb2⟩;have HB2:=Lh (HB.out.trans (hb2.mono HB.out.size));clear hb2)|fail);go_ret;exact⟨Qaw (show decide ((Qca nb nn:Int)+1+(1-min (nn:Int) 1)+1≤(h:Int))=Qd8 h nb nn 0 x by rw[HR.out,show((min nn 1:Nat):Int)=min (nn:Int) 1 by omega];simp),HB2.out⟩
  ·have hq2:¬(q:Int)=0:=by omega
   have HR2:Hid (Qd8 h nb nn q x=false):=Lh (by rw[HR.out,decide_eq_false hq];rfl);go_wp2_with fail;go_ret;exact⟨Qaw HR2.out.symm,HB.out⟩
theorem rints_any (A:Option Addr)(c n:Nat)(l:List Int)(w:World)(hs:Sl w (fun b=>b<w.heap.size) A c l)(hn:l.length=n)(hm:n≤1048576):
 Calls Tryz.prog 193 #[.slice A n c,.int .i64 (n:Int)] w fun e w'=>∃v,e=.returned v∧Own w' w.heap.size 3 v l∧Below w.heap.size w w':=by
 have HS:=Lh hs;have HN:=Lh hn;have hnc:n≤c:=by rw[←hn];exact hs.1
 clear hs hn;go_enter Tryz.func193,Tryz.ntmps193
 go_wp2_with (first|(at_builtin;refine Qat (α:=Int) _ rfl (.tmp 6) (.tmp 12) 22 rfl w.heap.size 3 (.int .i64 0) 8 Tryz.underlying22 QaH rfl (by decide) (.slice none 0 0) [] rfl (Own.nil _ _ _) A c n l rfl HN.out (fun b=>b<w.heap.size) HS.out (fun i hi _ e=>by simp[Value.ownBlock] at e) (by simp;omega) (by simp;omega) nL ?_;intro v4 w4 hown4 hg4 hat4;have HO4:=Lh hown4;have HB4:=Lh (QaL (Below.refl w.heap.size w) (Own.nil w w.heap.size 3 (α:=Int)) nL hg4);clear hown4 hg4 hat4)|fail)
 go_ret;exact⟨_,rfl,HO4.out,HB4.out⟩
def IsCopy (x:LineP)(w:World)(e:Ending)(w':World):Prop:=∃A c B d,e=.returned (.agg #[.int .i64 x.fr,.int .i64 x.un,.slice A x.gaps.length c,.slice B x.notes.length d])∧Own w' w.heap.size 3 (.slice A x.gaps.length c) x.gaps∧Own w' w.heap.size 3 (.slice B x.notes.length d) x.notes∧Below w.heap.size w w'
set_option maxRecDepth 100000 in
theorem Qd7 (Ag An:Option Addr)(cg cn:Nat)(x:LineP)(w:World)(hg:Sl w (fun b=>b<w.heap.size) Ag cg x.gaps)(hn:Sl w (fun b=>b<w.heap.size) An cn x.notes)(h1:x.gaps.length≤1048576)(h2:x.notes.length≤1048576):
 Calls Tryz.prog 162 #[.agg #[.int .i64 x.fr,.int .i64 x.un,.slice Ag x.gaps.length cg,.slice An x.notes.length cn]] w (IsCopy x w):=by
 obtain⟨wb,hwb⟩:∃wb,(w.alloc (.cells #[.int .i64 x.fr,.int .i64 x.un,.slice Ag x.gaps.length cg,.slice An x.notes.length cn] 56)).alloc (.cells #[.int .i64 0,.int .i64 0,.slice none 0 0,.slice none 0 0] 56)=wb:=⟨_,rfl⟩;have hba:Below w.heap.size w wb:=by rw[←hwb];exact(bR.alloc nL _).alloc (by simp) _
 have hsz:wb.heap.size=w.heap.size+2:=by rw[←hwb];simp
 have hx0:ABox wb w.heap.size 56 [.int .i64 x.fr,.int .i64 x.un,.slice Ag x.gaps.length cg,.slice An x.notes.length cn]:=by rw[←hwb];exact(Below.heap_alloc _ _ _ (by simp)).trans (heap_alloc_new w _)
 have hx1:ABox wb (w.heap.size+1) 56 [.int .i64 0,.int .i64 0,.slice none 0 0,.slice none 0 0]:=by rw[←hwb];exact Qaq (by simp)
 have HG:=Lh (hg.to hba);have HN:=Lh (hn.to hba);have HB:=Lh hba;have HX0:=Lh hx0;have HX1:=Lh hx1;have HSZ:=Lh hsz;obtain⟨O,hO⟩:∃O,w.heap.size+1=O:=⟨_,rfl⟩;clear hba hx0 hx1 hg hn hsz;go_enter Tryz.func162,Tryz.ntmps162;go_upto_region 1 with(fail);(try rw[hwb]);clear hwb;refine Qac [9,15] (fun i=>if i=9 then SP.own wb.heap.size 3 x.gaps else if i=15 then SP.own wb.heap.size 3 x.notes else SP.any) 17 (by kernel_rfl) (by kernel_rfl) ?_;intro T _ g hg hgm;have x0:∀d,(g d).cell? ⟨w.heap.size,0,none⟩=some (.int .i64 x.fr):=fun d=>(HX0.out.to (hg d)).cell 0 rfl
 have x1:∀d,(g d).cell? ⟨w.heap.size,1,none⟩=some (.int .i64 x.un):=fun d=>(HX0.out.to (hg d)).cell 1 rfl
 have x2:∀d,(g d).cell? ⟨w.heap.size,2,none⟩=some (.slice Ag x.gaps.length cg):=fun d=>(HX0.out.to (hg d)).cell 2 rfl
 have x3:∀d,(g d).cell? ⟨w.heap.size,3,none⟩=some (.slice An x.notes.length cn):=fun d=>(HX0.out.to (hg d)).cell 3 rfl
 (repeat(refine Qab (by rfl) fun Kq hq=>?_;go_big_quiet_step (fail);refine wpQuiet_nil (hq _ ?_);clear hq Kq));refine Qah (by rfl) (by rfl) (fun d hG K Q hK=>?_) (fun v d hG hp Kr hr=>?_)
 ·go_simp;go_at_call 193;refine(rints_any Ag cg x.gaps.length x.gaps (g d) (HG.out.to (hg d)) rfl h1).mono ?_;rintro e W1 ⟨v3,rfl,ho3,hb1⟩;go_simp;exact hK _ _ hb1 (ho3.re (hg d).size)
 obtain⟨A3,c3,rfl,-⟩:=(show Own (g d) wb.heap.size 3 v x.gaps from hp).form;(try clear hp);clear hG;go_frame;refine hr _ ?_;clear hr Kr;(repeat(refine Qab (by rfl) fun Kq hq=>?_;go_big_quiet_step (fail);refine wpQuiet_nil (hq _ ?_);clear hq Kq));refine Qah (by rfl) (by rfl) (fun d hG K Q hK=>?_) (fun v d hG hp Kr hr=>?_)
 ·go_simp;go_at_call 193;refine(rints_any An cn x.notes.length x.notes (g d) (HN.out.to (hg d)) rfl h2).mono ?_;rintro e W1 ⟨v3,rfl,ho3,hb1⟩;go_simp;exact hK _ _ hb1 (ho3.re (hg d).size)
 obtain⟨A4,c4,rfl,-⟩:=(show Own (g d) wb.heap.size 3 v x.notes from hp).form;(try clear hp);clear hG;go_frame;refine hr _ ?_;clear hr Kr;(repeat(refine Qab (by rfl) fun Kq hq=>?_;go_big_quiet_step (fail);refine wpQuiet_nil (hq _ ?_);clear hq Kq));refine QaB 1 (by rfl) (by rfl) (fun d hG=>?_);have HO3:Hid (Own (g d) wb.heap.size 3 (.slice A3 x.gaps.length c3) x.gaps):=Lh (hG 9);have HO4:Hid (Own (g d) wb.heap.size 3 (.slice A4 x.notes.length c4) x.notes):=Lh (hG 15);have HXd:=Lh (HX1.out.to (hg d));have HBd:=Lh (HB.out.trans ((hg d).mono HB.out.size));rw[hO] at HXd;(try rw[hO]);clear hG hg hgm x0 x1 x2 x3;generalize g d=w6 at*;clear g;have z0:=HXd.out.cell 0 rfl;have z1:=(HXd.out.set 0 (.int .i64 x.fr)).cell 1 rfl;have z2:=((HXd.out.set 0 (.int .i64 x.fr)).set 1 (.int .i64 x.un)).cell 2 rfl;have z3:=(((HXd.out.set 0 (.int .i64 x.fr)).set 1 (.int .i64 x.un)).set 2 (.slice A3 x.gaps.length c3)).cell 3 rfl;have y0:=HXd.out.fz 0;have y1:=(HXd.out.set 0 (.int .i64 x.fr)).fz 1;have y2:=((HXd.out.set 0 (.int .i64 x.fr)).set 1 (.int .i64 x.un)).fz 2;have y3:=(((HXd.out.set 0 (.int .i64 x.fr)).set 1 (.int .i64 x.un)).set 2 (.slice A3 x.gaps.length c3)).fz 3;refine Qag (i:=17) (oi:=_) rfl (by kernel_rfl) (by rfl) (fun K hK=>?_);go_simp;refine hK _ _ ?_;clear hK K;(try go_frame);clear z0 z1 z2 z3 y0 y1 y2 y3;refine wpAny_done (by kernel_rfl) ?_ _;unfold Exit.then;have hkk:∀i,i≠O→((((w6.setCell ⟨O,0,none⟩ (.int .i64 x.fr)).setCell ⟨O,1,none⟩ (.int .i64 x.un)).setCell ⟨O,2,none⟩ (.slice A3 x.gaps.length c3)).setCell ⟨O,3,none⟩ (.slice A4 x.notes.length c4)).heap[i]? =w6.heap[i]? :=fun i hi=>(Qaa _ _ _ _ hi).trans ((Qaa _ _ _ _ hi).trans ((Qaa _ _ _ _ hi).trans (Qaa _ _ _ _ hi)))
 have hwO:w.heap.size≤O:=by omega
 have hwb2:w.heap.size≤wb.heap.size:=by have:=HSZ.out;omega
 have hOb:O<wb.heap.size:=by have:=HSZ.out;omega
 have HZB:Hid (Below w.heap.size w ((((w6.setCell ⟨O,0,none⟩ (.int .i64 x.fr)).setCell ⟨O,1,none⟩ (.int .i64 x.un)).setCell ⟨O,2,none⟩ (.slice A3 x.gaps.length c3)).setCell ⟨O,3,none⟩ (.slice A4 x.notes.length c4))):=Lh ((((HBd.out.setCell (p:=⟨O,0,none⟩) hwO _).setCell (p:=⟨O,1,none⟩) hwO _).setCell (p:=⟨O,2,none⟩) hwO _).setCell (p:=⟨O,3,none⟩) hwO _);have HZ3:Hid (Own ((((w6.setCell ⟨O,0,none⟩ (.int .i64 x.fr)).setCell ⟨O,1,none⟩ (.int .i64 x.un)).setCell ⟨O,2,none⟩ (.slice A3 x.gaps.length c3)).setCell ⟨O,3,none⟩ (.slice A4 x.notes.length c4)) w.heap.size 3 (.slice A3 x.gaps.length c3) x.gaps):=Lh ((QcV HO3.out (fun i hi=>hkk i (fun e=>by have:=(HO3.out.lt i hi).1;omega))).re hwb2);have HZ4:Hid (Own ((((w6.setCell ⟨O,0,none⟩ (.int .i64 x.fr)).setCell ⟨O,1,none⟩ (.int .i64 x.un)).setCell ⟨O,2,none⟩ (.slice A3 x.gaps.length c3)).setCell ⟨O,3,none⟩ (.slice A4 x.notes.length c4)) w.heap.size 3 (.slice A4 x.notes.length c4) x.notes):=Lh ((QcV HO4.out (fun i hi=>hkk i (fun e=>by have:=(HO4.out.lt i hi).1;omega))).re hwb2);have HZX:Hid (ABox ((((w6.setCell ⟨O,0,none⟩ (.int .i64 x.fr)).setCell ⟨O,1,none⟩ (.int .i64 x.un)).setCell ⟨O,2,none⟩ (.slice A3 x.gaps.length c3)).setCell ⟨O,3,none⟩ (.slice A4 x.notes.length c4)) O 56 [.int .i64 x.fr,.int .i64 x.un,.slice A3 x.gaps.length c3,.slice A4 x.notes.length c4]):=Lh ((((HXd.out.set 0 (.int .i64 x.fr)).set 1 (.int .i64 x.un)).set 2 (.slice A3 x.gaps.length c3)).set 3 (.slice A4 x.notes.length c4));clear hkk;go_wp2_with fail
 exact bodyPost_ret (v:=.agg #[.int .i64 x.fr,.int .i64 x.un,.slice A3 x.gaps.length c3,.slice A4 x.notes.length c4]) (QaW Tryz.results162 _ _ O _ [.int .i64 x.fr,.int .i64 x.un,.slice A3 x.gaps.length c3,.slice A4 x.notes.length c4] _ rfl HZX.out Tryz.underlying56 rfl (by kernel_rfl)) rfl ⟨A3,c3,A4,c4,rfl,HZ3.out,HZ4.out,HZB.out⟩
theorem lrows_at {w:World}{S:Nat→Prop}{A:Option Addr}{c:Nat}{l:List (List LineP)}(h:Sl w S A c l){k:Nat}(hk:k<l.length):
 ∃b o A1 c1,A=some ⟨b,o,none⟩∧S b∧b<w.heap.size∧w.cell? ⟨b,o+k,none⟩=some (.slice A1 l[k].length c1)∧Sl w S A1 c1 l[k]:=by
 obtain⟨b,o,es,rfl,hb,hlt,⟨A1,c1,rfl,hs,-⟩,hc⟩:=h.at_ hk;have h0:=hc 0 _ rfl;simp only[Rep.size,Nat.mul_one,Nat.add_zero] at h0;exact⟨b,o,A1,c1,rfl,hb,hlt,h0,hs⟩
set_option maxRecDepth 100000 in
theorem rwrong_any (A B:Option Addr)(c d:Nat)(body:List LineP)(notes:List (List LineP))(h:Int)(w:World)(ha:Sl w (fun b=>b<w.heap.size) A c body)(hb:Sl w (fun b=>b<w.heap.size) B d notes)(hln:notes.length≤1048576)(hlb:body.length≤1048576)(hsm:∀x∈body,x.notes.length≤1048576):
 Calls Tryz.prog 161 #[.slice A body.length c,.slice B notes.length d,.int .i64 h] w fun e w'=>e=.returned (.int .i64 (QaE body notes h))∧Below w.heap.size w w':=by
 have HA:=Lh ha;have HBS:=Lh hb;have HSM:=Lh hsm;have hnc:notes.length≤d:=hb.1;have hbc:body.length≤c:=ha.1;have HB:Hid (Below w.heap.size w w):=Lh bR;clear ha hb hsm;by_cases h4:h<4
 ·have HE:Hid (QaE body notes h=5):=Lh (by unfold QaE;rw[if_pos (.inl h4)]);go_enter Tryz.func161,Tryz.ntmps161;go_wp2_with fail;go_ret;exact⟨by rw[HE.out];rfl,Below.refl _ _⟩
 by_cases h5:100<h
 ·have HE:Hid (QaE body notes h=5):=Lh (by unfold QaE;rw[if_pos (.inr h5)]);go_enter Tryz.func161,Tryz.ntmps161;go_wp2_with fail;go_ret;exact⟨by rw[HE.out];rfl,Below.refl _ _⟩
 have H45:Hid (¬(h<4∨100<h)):=Lh (by omega);go_enter Tryz.func161,Tryz.ntmps161;go_wp2_with fail;go_loopw [7] (fun i wr=>∃k:Nat,k≤notes.length∧i=.int .i64 (k:Int)∧Hid (∀j (hj:j<notes.length),j<k→notes[j]≠[])∧wr=w) (fun i _=>notes.length-(intOf i).toNat);(case atStart=>exact⟨0,Nat.zero_le _,rfl,Lh (fun j _ h=>absurd h (Nat.not_lt_zero _)),by first|rfl|trivial⟩);case round=>
  obtain⟨k,hk,rfl,HNE,rfl⟩:=hrel;by_cases hlt:k<notes.length
  ·have hkI:(k:Int)<(notes.length:Int):=by omega
   obtain⟨b,o,A1,c1,rfl,-,-,e0,-⟩:=lrows_at HBS.out hlt;obtain⟨y,hy⟩:∃y,notes[k]=y:=⟨_,rfl⟩;rw[hy] at e0;have HY:=Lh hy;clear hy;by_cases hye:y=[]
   ·have HE:Hid (QaE body notes h=1):=Lh (by
     unfold QaE
     rw[if_neg H45.out,if_pos]
     exact List.any_eq_true.2 ⟨notes[k],List.getElem_mem hlt,decide_eq_true (by rw[HY.out];exact hye)⟩)
    subst hye;go_wp2_with fail;go_ret;exact⟨by rw[HE.out];rfl,HB.out⟩
   ·have hy0:¬(y.length:Int)=0:=by have:=List.length_pos_iff.2 hye;omega
    have HYE:=Lh hye;clear hye;go_wp2_with fail;go_roundw
    case rel=>exact⟨k+1,by omega,by go_num,Lh (fun j hj hjk=>by
     rcases Nat.lt_or_ge j k with h|h
     ·exact HNE.out j hj h
     ·obtain rfl:j=k:=by omega
      rw[HY.out];exact HYE.out),by first|rfl|trivial⟩
    case measure=>simp[intOf];omega
  ·obtain rfl:k=notes.length:=by omega
   have HE:Hid (QaE body notes h=match QaX notes.length 0 (body.flatMap (·.notes)) with|none=>12|some k=>if k<notes.length then 3 else 0):=Lh (by
    unfold QaE
    rw[if_neg H45.out,if_neg]
    ·rfl
    ·rw[Bool.not_eq_true,List.any_eq_false]
     intro x hx
     obtain⟨j,hj,rfl⟩:=List.getElem_of_mem hx
     rw[decide_eq_true_iff]
     exact HNE.out j hj hj)
   clear HNE H45;go_wp2_with fail;obtain⟨wo,rfl⟩:∃wo:World,wo=wr:=⟨_,rfl⟩;go_loopw [8,9] (fun vn vi wr=>∃(k:Nat) (nx:Int),k≤body.length∧vi=.int .i64 (k:Int)∧vn=.int .i64 nx∧Hid (QaX notes.length 0 ((body.take k).flatMap (·.notes))=some nx)∧0≤nx∧nx≤notes.length∧wr=wo) (fun _ vi _=>body.length-(intOf vi).toNat);(case atStart=>exact⟨0,0,Nat.zero_le _,rfl,rfl,Lh rfl,Int.le_refl _,by omega,by first|rfl|trivial⟩);case round=>
    obtain⟨k,nx,hk,rfl,rfl,HX,hn0,hn1,rfl⟩:=hrel;by_cases hlt:k<body.length
    ·have hkl:(k:Int)<(body.length:Int):=by omega
     have hk0:(0:Int)≤(k:Int):=(by omega);obtain⟨b,o,Ag,cg,An,cn,rfl,-,hbl2,-,-,-,e3,hgS,hnS⟩:=Qa8 HA.out hlt;have HRS:=Lh (refs_step body k hlt)
     have HNO:Hid (∀j,QaX notes.length 0 ((body.take k).flatMap (·.notes)++(body[k].notes).take j)=none→QaX notes.length 0 (body.flatMap (·.notes))=none):=Lh (fun j hj=>by
      have h1:(body.flatMap (·.notes))=((body.take k).flatMap (·.notes)++(body[k].notes).take j)++((body[k].notes).drop j++(body.drop (k+1)).flatMap (·.notes)):=by
       (conv=>lhs;rw[←List.take_append_drop (k+1) body,List.flatMap_append,HRS.out])
       rw[List.append_assoc,List.append_assoc]
       congr 1
       rw[←List.append_assoc,List.take_append_drop]
      rw[h1,QbT,hj];rfl)
     have HNS:=Lh hnS;have hnl9:body[k].notes.length≤1048576:=HSM.out _ (List.getElem_mem hlt);have hncn:body[k].notes.length≤cn:=hnS.1;generalize body[k]=x at*;clear hgS hnS;go_wp2_with fail;obtain⟨w2,rfl⟩:∃w2:World,w2=wr:=⟨_,rfl⟩;go_loopw [8,10] (fun vn vj wr=>∃(j:Nat) (nx:Int),j≤x.notes.length∧vj=.int .i64 (j:Int)∧vn=.int .i64 nx∧Hid (QaX notes.length 0 ((body.take k).flatMap (·.notes)++x.notes.take j)=some nx)∧0≤nx∧nx≤notes.length∧wr=w2) (fun _ vj _=>x.notes.length-(intOf vj).toNat);(case atStart=>exact⟨0,nx,Nat.zero_le _,rfl,rfl,Lh (by rw[List.take_zero,List.append_nil];exact HX.out),hn0,hn1,by first|rfl|trivial⟩);case round=>
      clear HX hn0 hn1;obtain⟨j,nx,hj,rfl,rfl,HX,hn0,hn1,rfl⟩:=hrel;by_cases hjl:j<x.notes.length
      ·have hjl':(j:Int)<(x.notes.length:Int):=by omega
       have hj0:(0:Int)≤(j:Int):=(by omega);obtain⟨b1,o1,hA1,-,-,hok,ce⟩:=Qbe HNS.out hjl;subst hA1
       have HT2:Hid (QaX notes.length 0 ((body.take k).flatMap (·.notes)++x.notes.take (j+1))=if x.notes[j]≠nx∨(notes.length:Int)≤x.notes[j] then none else some (nx+1)):=Lh (by
        have e1:((body.take k).flatMap (·.notes))++x.notes.take (j+1)=((body.take k).flatMap (·.notes)++x.notes.take j)++[x.notes[j]]:=by
         rw[qT hjl,List.append_assoc]
        rw[e1,QbT,HX.out]
        rfl)
       have HNJ:=Lh (HNO.out (j+1));have HOK:=Lh hok;generalize x.notes[j]=q at*;clear hok;by_cases hq:q=nx
       ·subst hq;by_cases hq2:(notes.length:Int)≤q
        ·have HE2:Hid (QaE body notes h=12):=Lh (by rw[HE.out,HNJ.out (by rw[HT2.out,if_pos (.inr hq2)])]);go_wp2_with fail;go_ret;exact⟨by rw[HE2.out];rfl,HB.out⟩
        ·have HX2:Hid (QaX notes.length 0 ((body.take k).flatMap (·.notes)++x.notes.take (j+1))=some (q+1)):=Lh (by rw[HT2.out,if_neg (by omega)]);have hq3:q<(notes.length:Int):=(by omega);clear HT2 HNJ;go_wp2_with fail;go_roundw;(case rel=>exact⟨j+1,q+1,by omega,by go_num,by go_num,HX2,by omega,by omega,by first|trivial|rfl⟩);case measure=>(first|(simp[intOf];done)|(simp[intOf];omega))
       ·have HE2:Hid (QaE body notes h=12):=Lh (by rw[HE.out,HNJ.out (by rw[HT2.out,if_pos (.inl hq)])]);have hqb:(q==nx)=false:=(by rw[beq_eq_false_iff_ne];exact hq);go_wp2_with fail;go_ret;exact⟨by rw[HE2.out];rfl,HB.out⟩
      ·have HX2:Hid (QaX notes.length 0 ((body.take (k+1)).flatMap (·.notes))=some nx):=Lh (by rw[HRS.out];have:=HX.out;rwa [List.take_of_length_le (show x.notes.length≤j by omega)] at this);have hjl':¬(j:Int)<(x.notes.length:Int):=(by omega);go_wp2_with fail;go_roundw;(case rel=>exact⟨k+1,nx,by omega,by go_num,rfl,HX2,hn0,hn1,by first|trivial|rfl⟩);case measure=>(first|(simp[intOf];done)|(simp[intOf];omega))
    ·have HX2:Hid (QaX notes.length 0 (body.flatMap (·.notes))=some nx):=Lh (by have:=HX.out;rwa [List.take_of_length_le (by omega)] at this);clear HX;by_cases hnx:nx<(notes.length:Int)
     ·have HE2:Hid (QaE body notes h=3):=Lh (by rw[HE.out,HX2.out];exact if_pos hnx);go_wp2_with fail;go_ret;exact⟨by rw[HE2.out];rfl,HB.out⟩
     ·have HE2:Hid (QaE body notes h=0):=Lh (by rw[HE.out,HX2.out];exact if_neg hnx);go_wp2_with fail;go_ret;exact⟨by rw[HE2.out];rfl,HB.out⟩
def PE (O:Nat)(a b:Option Nat)(i:Nat):Prop:=O<i∧some i≠a∧some i≠b
structure PS (w0 w:World)(ob:Option Nat)(qv:Value)(queue:List LineP)(pv:Value)(pages:List PageP):Prop where
 bw:Below w0.heap.size w0 w
 q:Que w w0.heap.size 56 ob qv (queue.map (Av.mk:LineP→OldL w0.heap.size))
 pg:OwnP w w0.heap.size 43 pv pages (fun i=>w0.heap.size≤i∧some i≠ob)
structure PG (w0 w:World)(O:Nat)(ob:Option Nat)(qv:Value)(queue:List LineP)(pv:Value)(pages:List PageP)(bv:Value)(bl:List LineP)(nv:Value)(nl:List LineP):Prop where
 bw:Below w0.heap.size w0 w
 q:Que w w0.heap.size 56 ob qv (queue.map (Av.mk:LineP→OldL w0.heap.size))
 pg:OwnP w w0.heap.size 43 pv pages (fun i=>(w0.heap.size≤i∧i<O)∧some i≠ob)
 o:ABox w O 43 [.int .i64 0,.int .i64 0,.int .i64 0,.int .i64 0,bv,nv]
 oq:some O≠ob
 og:w0.heap.size≤O
 b:OwnP w (O+1) 56 bv bl (PE O ob nv.ownBlock)
 n:OwnP w (O+1) 56 nv nl (PE O ob bv.ownBlock)
section
variable {w0 w w':World} {O:Nat} {ob:Option Nat} {qv:Value} {queue:List LineP} {pv:Value} {pages:List PageP} {bv nv:Value} {bl nl:List LineP}
theorem PS.to (H:PS w0 w ob qv queue pv pages)(hb:Below w.heap.size w w'):PS w0 w' ob qv queue pv pages:=
 ⟨H.bw.trans (hb.mono H.bw.size),H.q.below hb,H.pg.below hb⟩
theorem PG.to (H:PG w0 w O ob qv queue pv pages bv bl nv nl)(hb:Below w.heap.size w w'):PG w0 w' O ob qv queue pv pages bv bl nv nl:=
 ⟨H.bw.trans (hb.mono H.bw.size),H.q.below hb,H.pg.below hb,H.o.to hb,H.oq,H.og,H.b.below hb,H.n.below hb⟩
theorem PS.start (H:PS w0 w ob qv queue pv pages)(hb:Below w.heap.size w w')(ho:ABox w' w.heap.size 43 [.int .i64 0,.int .i64 0,.int .i64 0,.int .i64 0,.slice none 0 0,.slice none 0 0]):
 PG w0 w' w.heap.size ob qv queue pv pages (.slice none 0 0) [] (.slice none 0 0) []:=
 ⟨(H.to hb).bw,(H.to hb).q,(H.pg.mono (fun i hi hl=>⟨⟨hi.1,hl⟩,hi.2⟩)).below hb,ho,fun e=>by have:=(H.q.lt _ e.symm).2;omega,H.bw.size,OwnP.nil _ _ _ _,OwnP.nil _ _ _ _⟩
theorem PG.note (H:PG w0 w O ob qv queue pv pages bv bl nv nl){x:LineP}{v':Value}(hx:Own w' (O+1) 56 v' (nl.map (Av.mk:LineP→Av LineP (PE O ob bv.ownBlock))++[⟨x⟩]))(hg:w.grownBy w' nv.ownBlock)(hat:v'.ownBlock=nv.ownBlock∨v'.ownBlock=some w.heap.size):
 w'.cell? ⟨O,5,none⟩=some nv∧(∀j,w'.frozen? ⟨O,j,none⟩=false)∧PG w0 (w'.setCell ⟨O,5,none⟩ v') O ob qv queue pv pages bv bl v' (nl++[x]):=by
 have hol:=H.q.lt;have hsz:=hg.size;have hOw:O<w.heap.size:=H.o.lt;have hOn:some O≠nv.ownBlock:=fun e=>by have:=(H.n.lt _ e.symm).1;omega
 have hqn:∀g,ob=some g→some g≠nv.ownBlock:=fun g e1 e2=>(H.n.at_ g e2.symm).2.1 (by rw[e1])
 have hoO:ABox w' O 43 [.int .i64 0,.int .i64 0,.int .i64 0,.int .i64 0,bv,nv]:=(hg.block O hOw hOn).trans H.o;have hold:Kept (fun b=>b<w0.heap.size) w w':=Kept.grown hg (fun i hi e=>by have:=(H.n.lt _ e.symm).1;have:=H.og;omega);have hold2:Kept (fun b=>b<w0.heap.size) w' (w'.setCell ⟨O,5,none⟩ v'):=fun i hi _=>Qaa w' O 5 v' (by have:=H.og;omega)
 refine⟨hoO.cell 5 rfl,fun j=>hoO.fz j,?_,?_,?_,?_,H.oq,H.og,?_,?_⟩
 ·exact(H.bw.grown hg H.bw.size (fun k hk=>by have:=(H.n.lt _ hk).1;have:=H.og;omega)).setCell (p:=⟨O,5,none⟩) H.og _
 ·exact(H.q.keptA hold (fun g hg' hl=>hg.block g hl (fun e=>hqn g hg' e))).keptA hold2 (fun g hg' _=>Qaa w' O 5 v' (fun e=>H.oq (e▸hg'.symm)))
 ·exact(H.pg.grown hg (fun i hi e=>by have:=(H.n.lt _ e.symm).1;omega)).set O 5 v' (fun i hi e=>by omega)
 ·have:=hoO.set 5 v';simpa using this
 ·refine(((H.b.mono (Q:=fun i=>PE O ob nv.ownBlock i∧PE O ob v'.ownBlock i) (fun i hi hl=>⟨hi,hi.1,hi.2.1,fun e=>?_⟩)).grown hg (fun i hi=>hi.1.2.2)).set O 5 v' (fun i hi e=>by have:=hi.1.1;omega)).mono (fun i hi _=>hi.2);rcases hat with h|h
  ·exact hi.2.2 (by rw[e,h])
  ·rw[h] at e;injection e with e;omega
 ·exact(H.n.pushed hx (H:=w.heap.size) (fun g hgo=>by
   rcases hat with h|h
   ·exact .inl (h▸hgo)
   ·rw[h] at hgo;injection hgo with e;exact .inr e.symm) ⟨hOw,fun e=>by have:=(hol _ e.symm).2;omega,fun e=>by have:=(H.b.lt _ e.symm).2;omega⟩).set O 5 v' (fun i hi e=>by have:=hi.1;omega)
theorem PG.body (H:PG w0 w O ob qv queue pv pages bv bl nv nl){x:LineP}{v':Value}(hx:Own w' (O+1) 56 v' (bl.map (Av.mk:LineP→Av LineP (PE O ob nv.ownBlock))++[⟨x⟩]))(hg:w.grownBy w' bv.ownBlock)(hat:v'.ownBlock=bv.ownBlock∨v'.ownBlock=some w.heap.size):
 w'.cell? ⟨O,4,none⟩=some bv∧(∀j,w'.frozen? ⟨O,j,none⟩=false)∧PG w0 (w'.setCell ⟨O,4,none⟩ v') O ob qv queue pv pages v' (bl++[x]) nv nl:=by
 have hol:=H.q.lt;have hsz:=hg.size;have hOw:O<w.heap.size:=H.o.lt;have hOn:some O≠bv.ownBlock:=fun e=>by have:=(H.b.lt _ e.symm).1;omega
 have hqn:∀g,ob=some g→some g≠bv.ownBlock:=fun g e1 e2=>(H.b.at_ g e2.symm).2.1 (by rw[e1])
 have hoO:ABox w' O 43 [.int .i64 0,.int .i64 0,.int .i64 0,.int .i64 0,bv,nv]:=(hg.block O hOw hOn).trans H.o;have hold:Kept (fun b=>b<w0.heap.size) w w':=Kept.grown hg (fun i hi e=>by have:=(H.b.lt _ e.symm).1;have:=H.og;omega);have hold2:Kept (fun b=>b<w0.heap.size) w' (w'.setCell ⟨O,4,none⟩ v'):=fun i hi _=>Qaa w' O 4 v' (by have:=H.og;omega)
 refine⟨hoO.cell 4 rfl,fun j=>hoO.fz j,?_,?_,?_,?_,H.oq,H.og,?_,?_⟩
 ·exact(H.bw.grown hg H.bw.size (fun k hk=>by have:=(H.b.lt _ hk).1;have:=H.og;omega)).setCell (p:=⟨O,4,none⟩) H.og _
 ·exact(H.q.keptA hold (fun g hg' hl=>hg.block g hl (fun e=>hqn g hg' e))).keptA hold2 (fun g hg' _=>Qaa w' O 4 v' (fun e=>H.oq (e▸hg'.symm)))
 ·exact(H.pg.grown hg (fun i hi e=>by have:=(H.b.lt _ e.symm).1;omega)).set O 4 v' (fun i hi e=>by omega)
 ·have:=hoO.set 4 v';simpa using this
 ·exact(H.b.pushed hx (H:=w.heap.size) (fun g hgo=>by
   rcases hat with h|h
   ·exact .inl (h▸hgo)
   ·rw[h] at hgo;injection hgo with e;exact .inr e.symm) ⟨hOw,fun e=>by have:=(hol _ e.symm).2;omega,fun e=>by have:=(H.n.lt _ e.symm).2;omega⟩).set O 4 v' (fun i hi e=>by have:=hi.1;omega)
 ·refine(((H.n.mono (Q:=fun i=>PE O ob bv.ownBlock i∧PE O ob v'.ownBlock i) (fun i hi hl=>⟨hi,hi.1,hi.2.1,fun e=>?_⟩)).grown hg (fun i hi=>hi.1.2.2)).set O 4 v' (fun i hi e=>by have:=hi.1.1;omega)).mono (fun i hi _=>hi.2);rcases hat with h|h
  ·exact hi.2.2 (by rw[e,h])
  ·rw[h] at e;injection e with e;omega
theorem PG.que (H:PG w0 w O ob qv queue pv pages bv bl nv nl){ob':Option Nat}{qv':Value}{queue':List LineP}(hg:w.grownBy w' ob)(hq:Que w' w0.heap.size 56 ob' qv' (queue'.map (Av.mk:LineP→OldL w0.heap.size)))(hob:ob'=ob∨ob'=some w.heap.size):
 PG w0 w' O ob' qv' queue' pv pages bv bl nv nl:=by
 have hol:=H.q.lt;have hOw:O<w.heap.size:=H.o.lt
 have hn:∀i,i<w.heap.size→some i≠ob→some i≠ob':=fun i hl hi e=>by
  rcases hob with h|h
  ·exact hi (by rw[e,h])
  ·rw[h] at e;injection e with e;omega
 refine⟨H.bw.grown hg H.bw.size (fun k hk=>(hol k hk).1),hq,?_,(hg.block O hOw H.oq).trans H.o,hn O hOw H.oq,H.og,?_,?_⟩
 ·exact((H.pg.mono (Q:=fun i=>some i≠ob∧((w0.heap.size≤i∧i<O)∧some i≠ob')) (fun i hi hl=>⟨hi.2,hi.1,hn i hl hi.2⟩)).grown hg (fun i hi=>hi.1)).mono (fun i hi _=>hi.2)
 ·exact((H.b.mono (Q:=fun i=>some i≠ob∧PE O ob' nv.ownBlock i) (fun i hi hl=>⟨hi.2.1,hi.1,hn i hl hi.2.1,hi.2.2⟩)).grown hg (fun i hi=>hi.1)).mono (fun i hi _=>hi.2)
 ·exact((H.n.mono (Q:=fun i=>some i≠ob∧PE O ob' bv.ownBlock i) (fun i hi hl=>⟨hi.2.1,hi.1,hn i hl hi.2.1,hi.2.2⟩)).grown hg (fun i hi=>hi.1)).mono (fun i hi _=>hi.2)
theorem PG.cut (H:PG w0 w O ob qv queue pv pages bv bl nv nl){ob':Option Nat}{qv':Value}{queue':List LineP}(hq:Que w w0.heap.size 56 ob' qv' (queue'.map (Av.mk:LineP→OldL w0.heap.size)))(hob:ob'=none∨ob'=ob):
 PG w0 w O ob' qv' queue' pv pages bv bl nv nl:=by
 have hn:∀i,some i≠ob→some i≠ob':=fun i hi=>by
  rcases hob with rfl|rfl
  ·simp
  ·exact hi
 exact⟨H.bw,hq,H.pg.mono (fun i hi _=>⟨hi.1,hn i hi.2⟩),H.o,hn O H.oq,H.og,H.b.mono (fun i hi _=>⟨hi.1,hn i hi.2.1,hi.2.2⟩),H.n.mono (fun i hi _=>⟨hi.1,hn i hi.2.1,hi.2.2⟩)⟩
theorem PG.rep (H:PG w0 w O ob qv queue pv pages bv bl nv nl)(h1:bl.length<9223372036854775808)(h2:nl.length<9223372036854775808):
 Rep.R w (fun i=>O<i∧some i≠ob) [.int .i64 0,.int .i64 0,.int .i64 0,.int .i64 0,bv,nv] (⟨0,0,0,0,bl,nl⟩:PageP):=by
 exact⟨_,_,rfl,H.b.rep h1 (fun i hi _=>⟨hi.1,hi.2.1⟩),H.n.rep h2 (fun i hi _=>⟨hi.1,hi.2.1⟩)⟩
theorem PG.page (H:PG w0 w O ob qv queue pv pages bv bl nv nl){pv':Value}{d:PageP}(hg:w.grownBy w' pv.ownBlock)(h2:Own w' w0.heap.size 43 pv' (pages.map (Av.mk:PageP→Av PageP (fun i=>w0.heap.size≤i∧some i≠ob))++[⟨d⟩])) (hat:∀g,pv'.ownBlock=some g→pv.ownBlock=some g∨g=w.heap.size):PS w0 w' ob qv queue pv' (pages++[d]):=by
 have hol:=H.q.lt;have hpl:=H.pg.lt;have hold:Kept (fun b=>b<w0.heap.size) w w':=Kept.grown hg (fun i hi e=>by have:=(hpl i e.symm).1;omega);have hpg:OwnP w w0.heap.size 43 pv pages (fun i=>w0.heap.size≤i∧some i≠ob):=H.pg.mono (fun i hi _=>⟨hi.1.1,hi.2⟩);exact⟨H.bw.grown hg H.bw.size (fun k hk=>(hpl k hk).1),H.q.keptA hold (fun g hg' hl=>hg.block g hl (fun e=>(H.pg.at_ g e.symm).2 (by rw[hg']))),hpg.pushed h2 hat ⟨H.bw.size,fun e=>by have:=(hol _ e.symm).2;omega⟩⟩
end
theorem moved {h lines shown s q:Nat}(h1:shown≤s)(h2:s≤q)(h3:s=shown∨lines+1+s+1≤h)(h4:¬(0<q-s∧lines+1+s+2≤h)):s=Qbr h lines shown q:=by
 unfold Qbr;split<;>omega
def SP.copy (B:Nat)(x:LineP):SP:=⟨fun v w=>∃A c A' c',v=.agg #[.int .i64 x.fr,.int .i64 x.un,.slice A x.gaps.length c,.slice A' x.notes.length c']∧Own w B 3 (.slice A x.gaps.length c) x.gaps∧Own w B 3 (.slice A' x.notes.length c') x.notes,fun _ _ _ h hb=>by
 obtain⟨A,c,A',c',h1,h2,h3⟩:=h
 exact⟨A,c,A',c',h1,h2.below hb,h3.below hb⟩⟩
set_option maxRecDepth 100000 in
theorem rset_any (A B:Option Addr)(c d:Nat)(body:List LineP)(notes:List (List LineP))(h:Int)(w:World)(ha:Sl w (fun b=>b<w.heap.size) A c body)(hb:Sl w (fun b=>b<w.heap.size) B d notes)(hln:notes.length≤1048576) (hall:body.length+notes.flatten.length≤1048576) (hsm:Qa1 body) (hsn:∀n∈notes,Qa1 n):
 Calls Tryz.prog 112 #[.slice A body.length c,.slice B notes.length d,.int .i64 h] w fun e w'=>∃v,e=.returned (.tuple #[v,.int .i64 (QaE body notes h)])∧ (QaE body notes h=0→Own w' w.heap.size 43 v ((setPages notes h.toNat (Qak body notes) body []).map (Bd.mk:PageP→Bd PageP w.heap.size)))∧(QaE body notes h≠0→v=.slice none 0 0)∧Below w.heap.size w w':=by
 have HC:=Lh (rwrong_any A B c d body notes h w ha hb hln (by omega) (fun x hx=>by have:=(hsm x hx).2;omega));have HA:=Lh ha;have HBn:=Lh hb;have HSM:=Lh hsm;have HSN:=Lh hsn;have hbc:body.length≤c:=ha.1;have hnd:notes.length≤d:=hb.1;clear ha hb hsm hsn;by_cases hE:QaE body notes h=0
 ·obtain⟨hn,rfl⟩:∃hn:Nat,h=(hn:Int):=⟨h.toNat,by have:=pageE_h hE;omega⟩;have hh:=pageE_h hE;have h4:4≤hn:=(by omega);have h100:hn≤100:=(by omega);have HREF:=Lh (pageE_refs hE);have hbl:body.length≤1048576:=(by omega);have HALL:Hid (Qak body notes≤1048576):=Lh (Nat.le_trans (Qcd hE) hall);have HE:=Lh hE;simp only[hE] at HC ⊢;rw[Int.toNat_natCast];clear hE hh hall;go_enter Tryz.func112,Tryz.ntmps112;go_wp2_with (first|(go_at_call 161;refine HC.out.mono ?_;rintro e w2 ⟨rfl,hb2⟩)|fail);have HP0:Hid (PS w w2 none (.slice none 0 0) [] (.slice none 0 0) []):=Lh ⟨hb2,Que.nil _ _ _,OwnP.nil _ _ _ _⟩;obtain⟨N,hN⟩:∃N,(setPages notes hn (Qak body notes) body []).length=N:=⟨_,rfl⟩;have HNE:=Lh hN;clear hb2 HC hN
  go_loopw [9,10,11] (fun v9 v10 v11 wr=>∃(at_:Nat) (ob:Option Nat) (qu:List LineP) (pgs:List PageP) (f:Nat),v11=.int .i64 (at_:Int)∧at_≤body.length∧Hid (PS w wr ob v10 qu v9 pgs)∧Hid (Qak (body.drop at_) notes+qu.length≤f∧f≤1048576)∧ Hid (pgs++setPages notes hn f (body.drop at_) qu=setPages notes hn (Qak body notes) body [])∧Hid (Qa1 qu)) (fun v9 _ _ _=>N-vlen v9)
  (case atStart=>exact⟨0,none,[],[],_,rfl,Nat.zero_le _,HP0,Lh ⟨Nat.le_refl _,HALL.out⟩,Lh rfl,Lh (fun x hx=>absurd hx (by simp))⟩);case round=>
   clear HP0 w2;obtain⟨at_,ob,qu,pgs,f,rfl,hat,HP,HF,HT,HS⟩:=hrel;obtain⟨Aq,cq,hqv,-,-⟩:=HP.out.q.len;rw[qM] at hqv;subst hqv;obtain⟨A9,c9,hv9,-,-⟩:=HP.out.pg.len;subst hv9;go_upto_region 7 with(fail);go_cut [29] from 21 to 29 (fun v29 wx=>v29=.bool (decide (at_<body.length)||decide (0<qu.length))∧wx=wr);case first=>
    by_cases h1:at_<body.length
    ·have h2:(at_:Int)<(body.length:Int):=by omega
     have H1:=Lh h1;clear h1;go_wp2_with fail;go_meet;exact⟨by rw[decide_eq_true H1.out];rfl,rfl⟩
    ·have h2:¬(at_:Int)<(body.length:Int):=by omega
     have H1:=Lh h1;clear h1;by_cases h3:0<qu.length
     ·have h5:(0:Int)<(qu.length:Int):=by omega
      have H3:=Lh h3;clear h3;go_wp2_with fail;go_meet;exact⟨by rw[decide_eq_false H1.out,decide_eq_true H3.out];rfl,rfl⟩
     ·have h5:¬(0:Int)<(qu.length:Int):=by omega
      have H3:=Lh h3;clear h3;go_wp2_with fail;go_meet;exact⟨by rw[decide_eq_false H1.out,decide_eq_false H3.out];rfl,rfl⟩
   case rest=>
    obtain⟨rfl,rfl⟩:=hcut;by_cases hfin:at_<body.length∨0<qu.length
    ·have HFIN:=Lh hfin;rw[show(decide (at_<body.length)||decide (0<qu.length))=true by rw[Bool.or_eq_true,decide_eq_true_iff,decide_eq_true_iff];exact hfin];clear hfin;go_upto_region 9 with(fail);obtain⟨O,hO⟩:∃O,wc.heap.size=O:=⟨_,rfl⟩;obtain⟨wP,hwP⟩:∃wP,wc.alloc (.cells #[.int .i64 0,.int .i64 0,.int .i64 0,.int .i64 0,.slice none 0 0,.slice none 0 0] 43)=wP:=⟨_,rfl⟩;have hpg0:PG w wP O ob (.slice Aq qu.length cq) qu (.slice A9 pgs.length c9) pgs (.slice none 0 0) [] (.slice none 0 0) []:=by
      rw[←hO,←hwP];exact HP.out.start (bR.alloc nL _) (heap_alloc_new wc _)
     rw[hwP,hO];have HG0:=Lh hpg0;have HQB:Hid (qu.length≤1048576):=Lh (by have:=HF.out;omega);clear hpg0 hwP hO HP;clear wc;go_loopw [10] (fun v10 wx=>∃(s:Nat) (ob1:Option Nat) (nv:Value),s≤qu.length∧s≤hn-1∧Hid (PG w wx O ob1 v10 (qu.drop s) (.slice A9 pgs.length c9) pgs (.slice none 0 0) [] nv (qu.take s))) (fun v10 _=>vlen v10);(case atStart=>exact⟨0,ob,_,Nat.zero_le _,Nat.zero_le _,HG0⟩);case round=>
      clear HG0 wP;obtain⟨s,ob1,nv,hs1,hs2,HG⟩:=hrel;obtain⟨A1,c1,hqv,-,-⟩:=HG.out.q.len;rw[qM,List.length_drop] at hqv;subst hqv;obtain⟨An,cn,hnv,-,-⟩:=HG.out.n.len;rw[qK,Nat.min_eq_left hs1] at hnv;subst hnv;have x5:=HG.out.o.cell 5 rfl;have hsq:s≤1048576:=(by have:=HQB.out;omega);go_upto_region 9 with(fail);go_cut [41] from 31 to 41 (fun v41 wx=>v41=.bool (decide (s<qu.length)&&decide (s<hn-1))∧wx=wr);case first=>
       by_cases h1:s<qu.length
       ·have h2:(0:Int)<((qu.length-s:Nat):Int):=by omega
        have H1:=Lh h1;by_cases h3:s<hn-1
        ·have h5:(s:Int)<(hn:Int)-1:=by omega
         have H3:=Lh h3;clear h1 h3;go_wp2_with fail;go_meet;exact⟨by rw[decide_eq_true H1.out,decide_eq_true H3.out];rfl,rfl⟩
        ·have h5:¬(s:Int)<(hn:Int)-1:=by omega
         have H3:=Lh h3;clear h1 h3;go_wp2_with fail;go_meet;exact⟨by rw[decide_eq_true H1.out,decide_eq_false H3.out];rfl,rfl⟩
       ·have h2:¬(0:Int)<((qu.length-s:Nat):Int):=by omega
        have H1:=Lh h1;clear h1;go_wp2_with fail;go_meet;exact⟨by rw[decide_eq_false H1.out];rfl,rfl⟩
      case rest=>
       obtain⟨rfl,rfl⟩:=hcut;obtain⟨wr,rfl⟩:∃wr:World,wr=wc:=⟨_,rfl⟩;clear x5;by_cases hgo:s<qu.length∧s<hn-1
       ·obtain⟨hgo1,hgo2⟩:=hgo;rw[decide_eq_true hgo1,decide_eq_true hgo2];obtain⟨A1',c1',e1',hsq1,-⟩:=HG.out.q.len;obtain⟨rfl,rfl⟩:A1=A1'∧c1=c1':=by injection e1' with a b c;exact⟨a,c⟩
        obtain⟨b,o,Ag,cg,Am,cm,hA1,-,hbl1,e0,e1,e2,e3,hgS,hnS⟩:=Qa8 hsq1.unav (k:=0) (by rw[List.length_drop];omega);subst hA1;simp only[Nat.zero_mul,Nat.add_zero] at e0 e1 e2 e3;obtain⟨x,hx⟩:∃x,(qu.drop s)[0]'(by rw[List.length_drop];omega)=x:=⟨_,rfl⟩;rw[hx] at e0 e1 e2 e3 hgS hnS;have HXQ:Hid (qu[s]? =some x):=Lh (by rw[List.getElem_drop] at hx;rw[qG hgo1];simpa using congrArg some hx);have HSX:Hid (x.gaps.length≤100000∧x.notes.length≤100000):=Lh (HS.out x (List.mem_of_getElem? HXQ.out));have HGS:=Lh hgS;have HNS:=Lh hnS;have HB1:Hid (b<wr.heap.size):=Lh hbl1;have HC1:Hid (qu.length-s≤c1):=Lh (by have:=hsq1.1;rwa [qM,List.length_drop] at this);have hi0:(0:Int)<((qu.length-s:Nat):Int):=(by omega);clear hgS hnS hbl1 hx hsq1 e1';go_upto_region 10 with(fail);refine Qac [5,6] (fun i=>if i=5 then SP.copy wr.heap.size x else if i=6 then SP.rp wr.heap.size [x] else SP.any) 7 (by kernel_rfl) (by kernel_rfl) ?_;intro T _ g hg hgm;have q5:∀d,(g d).cell? ⟨O,5,none⟩=some (.slice An s cn):=fun d=>(HG.out.o.to (hg d)).cell 5 rfl
        have l0:∀d,(g d).cell? ⟨b,o,none⟩=some (.int .i64 x.fr):=fun d=>((hg d).cell (p:=⟨b,o,none⟩) HB1.out).trans e0
        have l1:∀d,(g d).cell? ⟨b,o+1,none⟩=some (.int .i64 x.un):=fun d=>((hg d).cell (p:=⟨b,o+1,none⟩) HB1.out).trans e1
        have l2:∀d,(g d).cell? ⟨b,o+2,none⟩=some (.slice Ag x.gaps.length cg):=fun d=>((hg d).cell (p:=⟨b,o+2,none⟩) HB1.out).trans e2
        have l3:∀d,(g d).cell? ⟨b,o+3,none⟩=some (.slice Am x.notes.length cm):=fun d=>((hg d).cell (p:=⟨b,o+3,none⟩) HB1.out).trans e3
        (repeat(refine Qab (by rfl) fun Kq hq=>?_;go_big_quiet_step (fail);refine wpQuiet_nil (hq _ ?_);clear hq Kq));refine Qah (by rfl) (by rfl) (fun d hG K Q hK=>?_) (fun v d hG hp Kr hr=>?_)
        ·go_simp;go_at_call 162;refine(Qd7 Ag Am cg cm x (g d) (HGS.out.to (hg d)) (HNS.out.to (hg d)) (by have:=HSX.out;omega) (by have:=HSX.out;omega)).mono ?_;rintro e W1 ⟨A3,c3,A4,c4,rfl,ho3,ho4,hb1⟩;go_simp;exact hK _ _ hb1 (⟨A3,c3,A4,c4,rfl,ho3.re (hg d).size,ho4.re (hg d).size⟩)
        obtain⟨A3,c3,A4,c4,rfl,-⟩:=(show ∃A c A' c',v=.agg #[.int .i64 x.fr,.int .i64 x.un,.slice A x.gaps.length c,.slice A' x.notes.length c']∧_ from hp);(try clear hp);clear hG;go_frame;refine hr _ ?_;clear hr Kr;(repeat(refine Qab (by rfl) fun Kq hq=>?_;go_big_quiet_step (fail);refine wpQuiet_nil (hq _ ?_);clear hq Kq));refine Qah (by rfl) (by rfl) (fun d hG K Q hK=>?_) (fun v d hG hp Kr hr=>?_)
        ·obtain⟨A3',c3',A4',c4',he,ho3,ho4⟩:=(show ∃A c A' c',Value.agg #[.int .i64 x.fr,.int .i64 x.un,.slice A3 x.gaps.length c3,.slice A4 x.notes.length c4]=.agg #[.int .i64 x.fr,.int .i64 x.un,.slice A x.gaps.length c,.slice A' x.notes.length c']∧Own (g d) wr.heap.size 3 (.slice A x.gaps.length c) x.gaps∧Own (g d) wr.heap.size 3 (.slice A' x.notes.length c') x.notes from hG 5 (by kernel_rfl));obtain⟨rfl,rfl,rfl,rfl⟩:A3=A3'∧c3=c3'∧A4=A4'∧c4=c4':=by
          have:=congrArg (fun v:Value=>match v with|.agg cs=>cs.toList|_=>[]) he;simp at this;exact⟨this.1.1,this.1.2,this.2.1,this.2.2⟩
         have HR:Hid (Rep.R (g d) (Up wr.heap.size) [.int .i64 x.fr,.int .i64 x.un,.slice A3 x.gaps.length c3,.slice A4 x.notes.length c4] x):=Lh ⟨_,_,rfl,QaZ ho3 rfl (fun b hb=>hb),QaZ ho4 rfl (fun b hb=>hb)⟩;clear ho3 ho4 he;go_simp;exact hK _ _ (bR.alloc nL _) (QcL (hg d).size HR.out)
        obtain⟨⟨Az,cz,rfl⟩,-⟩:=(show(∃A c,v=.slice A [x].length c)∧_ from hp);(try clear hp);clear hG;go_frame;refine hr _ ?_;clear hr Kr;refine QaB 3 (by rfl) (by rfl) (fun d hG=>?_);have H6:Hid (Rep.R (g d) (Up wr.heap.size) [.slice Az [x].length cz] [x]):=Lh (show(∃A c,Value.slice Az [x].length cz=Value.slice A [x].length c)∧Rep.R (g d) (Up wr.heap.size) [.slice Az [x].length cz] [x] from hG 6).2;have HGd:=Lh (HG.out.to (hg d));have HLT:=Lh HG.out.n.lt;have HQL:=Lh HG.out.q.lt;have HOT:=Lh HG.out.b.lt;have HOL:Hid (O<wr.heap.size):=Lh HG.out.o.lt;have HSZ:Hid (wr.heap.size≤(g d).heap.size):=Lh (hg d).size;clear hG hg hgm q5 l0 l1 l2 l3 e0 e1 e2 e3;generalize g d=w6 at*;clear g
        have HSl:Hid (Sl w6 (Up wr.heap.size) Az cz ([x].map (Av.mk:LineP→Av LineP (PE O ob1 (Value.slice none 0 0).ownBlock)))):=Lh (by
         obtain⟨A',c',e,hs,-⟩:=H6.out
         cases e
         exact hs.av (fun i hi _=>⟨Nat.lt_of_lt_of_le HOL.out hi,fun e=>by have:=(HQL.out i e.symm).2;have:wr.heap.size≤i:=hi;omega,fun e=>by have:=(HOT.out i e.symm).2;have:wr.heap.size≤i:=hi;omega⟩))
        have HLM:Hid (((qu.take s).map (Av.mk:LineP→Av LineP (PE O ob1 (Value.slice none 0 0).ownBlock))).length=s):=Lh (by rw[qM];rw[qK];omega);refine Qag (i:=7) (oi:=_) rfl (by kernel_rfl) (by rfl) (fun K hK=>?_);refine Qb8 (α:=Av LineP (PE O ob1 (Value.slice none 0 0).ownBlock)) _ (.tmp 43) (.tmp 48) 41 rfl (O+1) 56 (.agg #[.int .i64 0,.int .i64 0,.slice none 0 0,.slice none 0 0]) 64 Tryz.underlying41 Qbh rfl (show 0<4 by decide) (.slice An s cn) ((qu.take s).map Av.mk) rfl HGd.out.n.own Az cz 1 ([x].map Av.mk) rfl rfl (Up wr.heap.size) HSl.out (fun i (hi:wr.heap.size≤i) _ e=>by have:=(HLT.out i e.symm).2;omega) (by rw[HLM.out];have:=HQB.out;omega) (by rw[HLM.out];have:=HQB.out;omega) (by have:=HOL.out;have:=HSZ.out;omega) ?_;intro v5 w5 hown5 hg5 hat5;obtain⟨A5,c5,e5,-⟩:=hown5.form;rw[qA,HLM.out] at e5;simp only[qM,qC,List.length_nil,Nat.zero_add] at e5;subst e5;obtain⟨q5,f5,hpg5⟩:=HGd.out.note hown5 hg5 hat5;have r5:=f5 5;have HG5:=Lh hpg5;refine hK _ _ ?_;clear hK K hown5 hg5 hat5 hpg5 f5 HSl H6 HGd;(try simp only[Act.put,sA0]);refine Qag (i:=8) (oi:=_) rfl (by kernel_rfl) (by rfl) (fun K hK=>?_);go_simp;refine hK _ _ ?_;clear hK K;(try go_frame);refine Qag (i:=9) (oi:=_) rfl (by kernel_rfl) (by rfl) (fun K hK=>?_);go_simp;refine hK _ _ ?_;clear hK K;(try go_frame);clear q5 r5;refine wpAny_done (by kernel_rfl) ?_ _;unfold Exit.then;have HTS:Hid (qu.take (s+1)=qu.take s++[x]):=Lh (by rw[List.take_add_one,HXQ.out];rfl);have hcb:=HC1.out;have hcI:(1:Int)≤(c1:Int):=(by omega);have hlI:(1:Int)≤((qu.length-s:Nat):Int):=(by omega);obtain⟨ob3,hob3,hq3⟩:=HG5.out.q.cut (k:=1) (by rw[qM,List.length_drop];omega);rw[←List.map_drop,List.drop_drop] at hq3;by_cases hc1:c1=1
        ·rw[if_pos hc1,hc1] at hq3;have HGC:=Lh (HG5.out.cut hq3 hob3);clear hq3;go_wp2_with fail;go_roundw;(case rel=>exact⟨s+1,ob3,_,by omega,by omega,Lh (by rw[HTS.out];exact HGC.out)⟩);case measure=>(simp only[vlen];omega)
        ·rw[if_neg hc1,show(some (⟨b,o,none⟩:Addr)).map (·.add (1*Rep.size (OldL w.heap.size)))=some ⟨b,o+4,none⟩ from rfl] at hq3;have HGC:=Lh (HG5.out.cut hq3 hob3);clear hq3;go_wp2_with fail;go_roundw;(case rel=>exact⟨s+1,ob3,_,by omega,by omega,Lh (by rw[HTS.out];exact HGC.out)⟩);case measure=>(simp only[vlen];omega)
       ·have hse:s=min qu.length (hn-1):=by omega
        rw[show(decide (s<qu.length)&&decide (s<hn-1))=false by rw[Bool.and_eq_false_iff,decide_eq_false_iff_not,decide_eq_false_iff_not];omega];obtain⟨bd,hbd⟩:∃bd,body.drop at_=bd:=⟨_,rfl⟩;have hbdl:at_+bd.length=body.length:=(by rw[←hbd,List.length_drop];omega);have HBD:=Lh hbd;rw[hbd] at HF HT;have HBS:Hid (Qa1 bd):=Lh (fun x hx=>HSM.out x (by rw[←hbd] at hx;exact List.mem_of_mem_drop hx));have HBR:Hid (Refs bd notes):=Lh (fun x hx=>HREF.out x (by rw[←hbd] at hx;exact List.mem_of_mem_drop hx));have HFI0:Hid (fillP notes hn (bd.drop 0) 0 s qu=fillP notes hn bd 0 (min qu.length (hn-1)) qu):=Lh (by rw[List.drop_zero,hse]);have HF0:Hid (Qak (bd.drop 0) notes+qu.length≤f):=Lh (by rw[List.drop_zero];exact HF.out.1);have hf1:f≤1048576:=HF.out.2;have HEX:Hid (∀i (hi:i<bd.length) (hi2:at_+i<body.length),body[at_+i]=bd[i]):=Lh (fun i hi hi2=>by simp only[←hbd,List.getElem_drop]);clear hbd hse hgo;obtain⟨wq,rfl⟩:∃wq:World,wq=wr:=⟨_,rfl⟩;go_upto_region 12 with(fail);go_loopw [10,11] (fun v10 v11 wx=>∃(ln sh:Nat) (ob1:Option Nat) (bv nv:Value) (qu1:List LineP),v11=.int .i64 ((at_+ln:Nat):Int)∧ln≤bd.length∧sh≤qu1.length∧Hid (PG w wx O ob1 v10 (qu1.drop sh) (.slice A9 pgs.length c9) pgs bv (bd.take ln) nv (qu1.take sh))∧Hid (fillP notes hn (bd.drop ln) ln sh qu1=fillP notes hn bd 0 (min qu.length (hn-1)) qu)∧Hid (Qak (bd.drop ln) notes+qu1.length≤f)∧Hid (Qa1 qu1)) (fun _ v11 _=>body.length-(intOf v11).toNat);(case atStart=>exact⟨0,s,ob1,_,_,qu,by rw[Nat.add_zero],Nat.zero_le _,hs1,HG,HFI0,HF0,HS⟩);case round=>
         clear HG HFI0 HF0 HS;clear wq;obtain⟨ln,sh,ob1,bv,nv,qu1,rfl,hln1,hsh,HG,HFI,HF1,HS⟩:=hrel;obtain⟨A1,c1,hqv,-,-⟩:=HG.out.q.len;rw[qM,List.length_drop] at hqv;subst hqv;obtain⟨An,cn,hnv,-,-⟩:=HG.out.n.len;rw[qK,Nat.min_eq_left hsh] at hnv;subst hnv;obtain⟨Ab,cb,hbv,-,-⟩:=HG.out.b.len;rw[qK,Nat.min_eq_left hln1] at hbv;subst hbv;have hq1f:qu1.length≤1048576:=(by have:=HF1.out;omega);have hln2:ln≤1048576:=(by omega);have hsh2:sh≤1048576:=(by omega);have HQB1:Hid (qu1.length≤1048576):=Lh hq1f;go_upto_region 12 with(fail);go_cut [67] from 53 to 67 (fun v67 wx=>v67=.bool (Qbu hn ln sh qu1.length bd)∧Hid (Below wr.heap.size wr wx));case first=>
          by_cases hl:ln<bd.length
          ·have hlI:((at_+ln:Nat):Int)<(body.length:Int):=by omega
           have hlI2:(at_:Int)+(ln:Int)<(body.length:Int):=(by omega);obtain⟨b,o,Ag,cg,Am,cm,rfl,-,hbl1,e0,e1,e2,e3,hgS,hnS⟩:=Qa8 (HA.out.to HG.out.bw) (k:=at_+ln) (by omega);have hsx:=HBS.out _ (List.getElem_mem hl);rw[HEX.out ln hl (by omega)] at e0 e1 e2 e3 hgS hnS
           have HFA:Hid (Qbu hn ln sh qu1.length bd=Qd8 hn ln sh (qu1.length-sh) bd[ln]):=Lh (by
            unfold Qbu Qd8
            rw[qG hl,show sh+(qu1.length-sh)=qu1.length by omega])
           obtain⟨x,hx⟩:∃x,bd[ln]=x:=⟨_,rfl⟩;rw[hx] at e0 e1 e2 e3 hgS hnS HFA hsx;have HSX:=Lh hsx;have HB1:Hid (b<wr.heap.size):=Lh hbl1;clear hx hgS hnS hbl1 hl hsx;refine Qac [13] (fun i=>if i=13 then SP.val (.bool (Qd8 hn ln sh (qu1.length-sh) x)) else SP.any) 15 (by kernel_rfl) (by kernel_rfl) ?_;intro T _ g hg hgm;have x0:∀d,(g d).cell? ⟨O,0,none⟩=some (.int .i64 0):=fun d=>(HG.out.o.to (hg d)).cell 0 rfl
           have x1:∀d,(g d).cell? ⟨O,1,none⟩=some (.int .i64 0):=fun d=>(HG.out.o.to (hg d)).cell 1 rfl
           have x2:∀d,(g d).cell? ⟨O,2,none⟩=some (.int .i64 0):=fun d=>(HG.out.o.to (hg d)).cell 2 rfl
           have x3:∀d,(g d).cell? ⟨O,3,none⟩=some (.int .i64 0):=fun d=>(HG.out.o.to (hg d)).cell 3 rfl
           have x4:∀d,(g d).cell? ⟨O,4,none⟩=some (.slice Ab ln cb):=fun d=>(HG.out.o.to (hg d)).cell 4 rfl
           have x5:∀d,(g d).cell? ⟨O,5,none⟩=some (.slice An sh cn):=fun d=>(HG.out.o.to (hg d)).cell 5 rfl
           have l0:∀d,(g d).cell? ⟨b,o+(at_+ln)*4,none⟩=some (.int .i64 x.fr):=fun d=>((hg d).cell (p:=⟨b,o+(at_+ln)*4,none⟩) HB1.out).trans e0
           have l1:∀d,(g d).cell? ⟨b,o+(at_+ln)*4+1,none⟩=some (.int .i64 x.un):=fun d=>((hg d).cell (p:=⟨b,o+(at_+ln)*4+1,none⟩) HB1.out).trans e1
           have l2:∀d,(g d).cell? ⟨b,o+(at_+ln)*4+2,none⟩=some (.slice Ag x.gaps.length cg):=fun d=>((hg d).cell (p:=⟨b,o+(at_+ln)*4+2,none⟩) HB1.out).trans e2
           have l3:∀d,(g d).cell? ⟨b,o+(at_+ln)*4+3,none⟩=some (.slice Am x.notes.length cm):=fun d=>((hg d).cell (p:=⟨b,o+(at_+ln)*4+3,none⟩) HB1.out).trans e3
           (repeat(refine Qab (by rfl) fun Kq hq=>?_;go_big_quiet_step (fail);refine wpQuiet_nil (hq _ ?_);clear hq Kq));refine Qah (by rfl) (by rfl) (fun d hG K Q hK=>?_) (fun v d hG hp Kr hr=>?_)
           ·go_simp;go_at_call 163;refine(rfits_any Ab An Ag Am cb cn cg cm ln sh (qu1.length-sh) hn x (g d) hln2 hsh2 (by omega) h100 (by have:=HSX.out.2;omega)).mono ?_;rintro e W1 ⟨rfl,hb1⟩;go_simp;exact hK _ _ hb1 (rfl)
           have hp:v=.bool (Qd8 hn ln sh (qu1.length-sh) x):=hp;subst hp;(try clear hp);clear hG;go_frame;refine hr _ ?_;clear hr Kr;(repeat(refine Qab (by rfl) fun Kq hq=>?_;go_big_quiet_step (fail);refine wpQuiet_nil (hq _ ?_);clear hq Kq));refine QbY (by kernel_rfl) (fun d hG=>?_) _;clear x0 x1 x2 x3 x4 x5 l0 l1 l2 l3;have HBd:=Lh (hg d);clear hG hg hgm;unfold Exit.then;generalize g d=w6 at*;clear g;go_wp2_with fail;go_meet;exact⟨by rw[HFA.out],HBd⟩
          ·have hlI:¬((at_+ln:Nat):Int)<(body.length:Int):=by omega
           have hlI2:¬(at_:Int)+(ln:Int)<(body.length:Int):=by omega
           have HFA:Hid (Qbu hn ln sh qu1.length bd=false):=Lh (by
            unfold Qbu
            rw[List.getElem?_eq_none (by omega)])
           clear hl;refine Qac [13] (fun i=>if i=13 then SP.any else SP.any) 15 (by kernel_rfl) (by kernel_rfl) ?_;intro T _ g hg hgm;(repeat(refine Qab (by rfl) fun Kq hq=>?_;go_big_quiet_step (fail);refine wpQuiet_nil (hq _ ?_);clear hq Kq));refine wpR_pass (by rfl) (by rfl) ?_;go_frame;(repeat(refine Qab (by rfl) fun Kq hq=>?_;go_big_quiet_step (fail);refine wpQuiet_nil (hq _ ?_);clear hq Kq));refine QbY (by kernel_rfl) (fun d hG=>?_) _;skip;have HBd:=Lh (hg d);clear hG hg hgm;unfold Exit.then;generalize g d=w6 at*;clear g;go_wp2_with fail;go_meet;exact⟨by rw[HFA.out],HBd⟩
         case rest=>
          obtain⟨rfl,HBw⟩:=hcut;have HGw:=Lh (HG.out.to HBw.out);clear HG HBw;clear wr;obtain⟨wr,rfl⟩:∃wr:World,wr=wc:=⟨_,rfl⟩;by_cases hfit:Qbu hn ln sh qu1.length bd=true
          ·rw[hfit];obtain⟨hl,hf⟩:=fits_get hfit;have hlI:((at_+ln:Nat):Int)<(body.length:Int):=(by omega);have hlI2:(at_:Int)+(ln:Int)<(body.length:Int):=(by omega);obtain⟨b,o,Ag,cg,Am,cm,rfl,-,hbl1,e0,e1,e2,e3,hgS,hnS⟩:=Qa8 HA.out (k:=at_+ln) (by omega);have hsx:=HBS.out _ (List.getElem_mem hl);have hrx:=HBR.out _ (List.getElem_mem hl);have hgo:=fillP_go (notes:=notes) hl hf;have hal:Qak (bd.drop ln) notes=1+(Qaf notes bd[ln]).length+Qak (bd.drop (ln+1)) notes:=by
            rw[List.drop_eq_getElem_cons hl];unfold Qak;rw[List.map_cons,List.sum_cons]
           have htk:bd.take (ln+1)=bd.take ln++[bd[ln]]:=qT hl;have hex:=HEX.out ln hl (by omega);rw[hex] at e0 e1 e2 e3 hgS hnS;obtain⟨x,hx⟩:∃x,bd[ln]=x:=⟨_,rfl⟩;rw[hx] at e0 e1 e2 e3 hgS hnS hsx hrx hgo hal htk;have HSX:=Lh hsx;have HRX:=Lh hrx;have HGO:=Lh hgo;have HAL:=Lh hal;have HTK:=Lh htk;have HBW:Hid (b<w.heap.size):=Lh hbl1;have HNSw:=Lh hnS;have HGS:Hid (Sl wr (fun b=>b<wr.heap.size) Ag cg x.gaps):=Lh (hgS.to HGw.out.bw);have HNS:Hid (Sl wr (fun b=>b<wr.heap.size) Am cm x.notes):=Lh (hnS.to HGw.out.bw);have HW0:Hid (∀W,Below w.heap.size w W→W.cell? ⟨b,o+(at_+ln)*4,none⟩=some (.int .i64 x.fr)):=Lh (fun W hW=>(hW.cell (p:=⟨b,o+(at_+ln)*4,none⟩) HBW.out).trans e0);have HW1:Hid (∀W,Below w.heap.size w W→W.cell? ⟨b,o+(at_+ln)*4+1,none⟩=some (.int .i64 x.un)):=Lh (fun W hW=>(hW.cell (p:=⟨b,o+(at_+ln)*4+1,none⟩) HBW.out).trans e1);have HW2:Hid (∀W,Below w.heap.size w W→W.cell? ⟨b,o+(at_+ln)*4+2,none⟩=some (.slice Ag x.gaps.length cg)):=Lh (fun W hW=>(hW.cell (p:=⟨b,o+(at_+ln)*4+2,none⟩) HBW.out).trans e2);have HW3:Hid (∀W,Below w.heap.size w W→W.cell? ⟨b,o+(at_+ln)*4+3,none⟩=some (.slice Am x.notes.length cm)):=Lh (fun W hW=>(hW.cell (p:=⟨b,o+(at_+ln)*4+3,none⟩) HBW.out).trans e3);have HLN:Hid (ln<bd.length):=Lh hl;have HNL:Hid (qu1.length+(Qaf notes x).length≤1048576):=Lh (by have:=HF1.out;have:=HAL.out;omega);have HBX:Hid (Below w.heap.size w wr):=Lh HGw.out.bw;have hnx:x.notes.length≤1048576:=(by have:=HSX.out.2;omega);have hncm:x.notes.length≤cm:=hnS.1;have hlnB:ln≤1048576:=hln2;have HLB:Hid (ln≤1048576):=Lh hln2;clear hf hgo hal htk hex hx hsx hrx hgS hnS e0 e1 e2 e3 hbl1 hl hfit;go_upto_region 13 with(fail);refine Qac [6,7] (fun i=>if i=6 then SP.copy wr.heap.size x else if i=7 then SP.rp wr.heap.size [x] else SP.any) 8 (by kernel_rfl) (by kernel_rfl) ?_;intro T _ g hg hgm;have q5:∀d,(g d).cell? ⟨O,4,none⟩=some (.slice Ab ln cb):=fun d=>(HGw.out.o.to (hg d)).cell 4 rfl
           have l0:∀d,(g d).cell? ⟨b,o+(at_+ln)*4,none⟩=some (.int .i64 x.fr):=fun d=>HW0.out _ (HBX.out.trans ((hg d).mono HBX.out.size))
           have l1:∀d,(g d).cell? ⟨b,o+(at_+ln)*4+1,none⟩=some (.int .i64 x.un):=fun d=>HW1.out _ (HBX.out.trans ((hg d).mono HBX.out.size))
           have l2:∀d,(g d).cell? ⟨b,o+(at_+ln)*4+2,none⟩=some (.slice Ag x.gaps.length cg):=fun d=>HW2.out _ (HBX.out.trans ((hg d).mono HBX.out.size))
           have l3:∀d,(g d).cell? ⟨b,o+(at_+ln)*4+3,none⟩=some (.slice Am x.notes.length cm):=fun d=>HW3.out _ (HBX.out.trans ((hg d).mono HBX.out.size))
           (repeat(refine Qab (by rfl) fun Kq hq=>?_;go_big_quiet_step (fail);refine wpQuiet_nil (hq _ ?_);clear hq Kq));refine Qah (by rfl) (by rfl) (fun d hG K Q hK=>?_) (fun v d hG hp Kr hr=>?_)
           ·go_simp;go_at_call 162;refine(Qd7 Ag Am cg cm x (g d) (HGS.out.to (hg d)) (HNS.out.to (hg d)) (by have:=HSX.out;omega) (by have:=HSX.out;omega)).mono ?_;rintro e W1 ⟨A3,c3,A4,c4,rfl,ho3,ho4,hb1⟩;go_simp;exact hK _ _ hb1 (⟨A3,c3,A4,c4,rfl,ho3.re (hg d).size,ho4.re (hg d).size⟩)
           obtain⟨A3,c3,A4,c4,rfl,-⟩:=(show ∃A c A' c',v=.agg #[.int .i64 x.fr,.int .i64 x.un,.slice A x.gaps.length c,.slice A' x.notes.length c']∧_ from hp);(try clear hp);clear hG;go_frame;refine hr _ ?_;clear hr Kr;(repeat(refine Qab (by rfl) fun Kq hq=>?_;go_big_quiet_step (fail);refine wpQuiet_nil (hq _ ?_);clear hq Kq));refine Qah (by rfl) (by rfl) (fun d hG K Q hK=>?_) (fun v d hG hp Kr hr=>?_)
           ·obtain⟨A3',c3',A4',c4',he,ho3,ho4⟩:=(show ∃A c A' c',Value.agg #[.int .i64 x.fr,.int .i64 x.un,.slice A3 x.gaps.length c3,.slice A4 x.notes.length c4]=.agg #[.int .i64 x.fr,.int .i64 x.un,.slice A x.gaps.length c,.slice A' x.notes.length c']∧Own (g d) wr.heap.size 3 (.slice A x.gaps.length c) x.gaps∧Own (g d) wr.heap.size 3 (.slice A' x.notes.length c') x.notes from hG 6 (by kernel_rfl));obtain⟨rfl,rfl,rfl,rfl⟩:A3=A3'∧c3=c3'∧A4=A4'∧c4=c4':=by
             have:=congrArg (fun v:Value=>match v with|.agg cs=>cs.toList|_=>[]) he;simp at this;exact⟨this.1.1,this.1.2,this.2.1,this.2.2⟩
            have HR:Hid (Rep.R (g d) (Up wr.heap.size) [.int .i64 x.fr,.int .i64 x.un,.slice A3 x.gaps.length c3,.slice A4 x.notes.length c4] x):=Lh ⟨_,_,rfl,QaZ ho3 rfl (fun b hb=>hb),QaZ ho4 rfl (fun b hb=>hb)⟩;clear ho3 ho4 he;go_simp;exact hK _ _ (bR.alloc nL _) (QcL (hg d).size HR.out)
           obtain⟨⟨Az,cz,rfl⟩,-⟩:=(show(∃A c,v=.slice A [x].length c)∧_ from hp);(try clear hp);clear hG;go_frame;refine hr _ ?_;clear hr Kr;refine QaB 3 (by rfl) (by rfl) (fun d hG=>?_);have H6:Hid (Rep.R (g d) (Up wr.heap.size) [.slice Az [x].length cz] [x]):=Lh (show(∃A c,Value.slice Az [x].length cz=Value.slice A [x].length c)∧Rep.R (g d) (Up wr.heap.size) [.slice Az [x].length cz] [x] from hG 7).2;have HGd:=Lh (HGw.out.to (hg d));have HLT:=Lh HGw.out.b.lt;have HQL:=Lh HGw.out.q.lt;have HOT:=Lh HGw.out.n.lt;have HOL:Hid (O<wr.heap.size):=Lh HGw.out.o.lt;have HSZ:Hid (wr.heap.size≤(g d).heap.size):=Lh (hg d).size;clear hG hg hgm q5 l0 l1 l2 l3;generalize g d=w6 at*;clear g
           have HSl:Hid (Sl w6 (Up wr.heap.size) Az cz ([x].map (Av.mk:LineP→Av LineP (PE O ob1 (Value.slice An sh cn).ownBlock)))):=Lh (by
            obtain⟨A',c',e,hs,-⟩:=H6.out
            cases e
            exact hs.av (fun i hi _=>⟨Nat.lt_of_lt_of_le HOL.out hi,fun e=>by have:=(HQL.out i e.symm).2;have:wr.heap.size≤i:=hi;omega,fun e=>by have:=(HOT.out i e.symm).2;have:wr.heap.size≤i:=hi;omega⟩))
           have HLM:Hid (((bd.take ln).map (Av.mk:LineP→Av LineP (PE O ob1 (Value.slice An sh cn).ownBlock))).length=ln):=Lh (by rw[qM];rw[qK];omega);refine Qag (i:=8) (oi:=_) rfl (by kernel_rfl) (by rfl) (fun K hK=>?_);refine Qb8 (α:=Av LineP (PE O ob1 (Value.slice An sh cn).ownBlock)) _ (.tmp 69) (.tmp 75) 41 rfl (O+1) 56 (.agg #[.int .i64 0,.int .i64 0,.slice none 0 0,.slice none 0 0]) 64 Tryz.underlying41 Qbh rfl (show 0<4 by decide) (.slice Ab ln cb) ((bd.take ln).map Av.mk) rfl HGd.out.b.own Az cz 1 ([x].map Av.mk) rfl rfl (Up wr.heap.size) HSl.out (fun i (hi:wr.heap.size≤i) _ e=>by have:=(HLT.out i e.symm).2;omega) (by rw[HLM.out];have:=HLB.out;omega) (by rw[HLM.out];have:=HLB.out;omega) (by have:=HOL.out;have:=HSZ.out;omega) ?_;intro v5 w5 hown5 hg5 hat5;obtain⟨A5,c5,e5,-⟩:=hown5.form;rw[qA,HLM.out] at e5;simp only[qM,qC,List.length_nil,Nat.zero_add] at e5;subst e5;obtain⟨q5,f5,hpg5⟩:=HGd.out.body hown5 hg5 hat5;have r5:=f5 4;have HG5:=Lh hpg5;refine hK _ _ ?_;clear hK K hown5 hg5 hat5 hpg5 f5 HSl H6 HGd;(try simp only[Act.put,sA0]);refine Qag (i:=9) (oi:=_) rfl (by kernel_rfl) (by rfl) (fun K hK=>?_);go_simp;refine hK _ _ ?_;clear hK K;(try go_frame);refine Qag (i:=10) (oi:=_) rfl (by kernel_rfl) (by rfl) (fun K hK=>?_);go_simp;refine hK _ _ ?_;clear hK K;(try go_frame);clear q5 r5;refine wpAny_done (by kernel_rfl) ?_ _;unfold Exit.then;rw[←HTK.out] at HG5;generalize w5.setCell _ _=wB at*;clear w6 HGS HNS HGw HSZ HLT HQL HOT HOL HBX;clear wr;go_upto_region 15 with(fail);go_loopw [10,13] (fun v10 v13 wx=>∃(j:Nat) (ob2:Option Nat),v13=.int .i64 (j:Int)∧j≤x.notes.length∧Hid (PG w wx O ob2 v10 (qu1.drop sh++Qbd notes x j) (.slice A9 pgs.length c9) pgs (.slice A5 (ln+1) c5) (bd.take (ln+1)) (.slice An sh cn) (qu1.take sh))) (fun _ v13 _=>x.notes.length-(intOf v13).toNat);(case atStart=>exact⟨0,ob1,rfl,Nat.zero_le _,Lh (by rw[show Qbd notes x 0=[] from rfl,List.append_nil];exact HG5.out)⟩);case round=>
            clear HG5 wB;obtain⟨j,ob2,rfl,hj,HG6⟩:=hrel;have m3:=HW3.out _ HG6.out.bw;by_cases hjl:j<x.notes.length
            ·have hjI:(j:Int)<(x.notes.length:Int):=by omega
             obtain⟨b1,o1,hA1,hb1,-,-,ce⟩:=Qbe HNSw.out hjl;subst hA1;have hq:=HRX.out _ (List.getElem_mem hjl);obtain⟨kn,hkn⟩:∃kn:Nat,x.notes[j]=(kn:Int):=⟨(x.notes[j]).toNat,by omega⟩;have hns:=QdX hjl (notes:=notes) (by omega);rw[hkn] at ce hq;have hkl:kn<notes.length:=(by omega);obtain⟨b2,o2,Ap,cp,rfl,hb2,-,ce2,hyS⟩:=lrows_at HBn.out hkl;have hnq:Qbd notes x (j+1)=Qbd notes x j++notes[kn]:=by
              rw[hns];congr 1;simp only[hkn,Int.toNat_natCast]
             obtain⟨y,hy⟩:∃y,notes[kn]=y:=⟨_,rfl⟩;rw[hy] at ce2 hyS hnq;have HNQ:=Lh hnq
             have HYL:Hid ((qu1.drop sh++Qbd notes x j).length+y.length≤1048576):=Lh (by
              have h1:=noteTo_le notes x (j+1)
              have h2:=HNL.out
              rw[HNQ.out,qA] at h1
              rw[qA,List.length_drop]
              omega)
             have HY:Hid (Sl wr (fun b=>b<w.heap.size) Ap cp y):=Lh (hyS.old (Kept.below HG6.out.bw (fun _ h=>h)) HG6.out.bw.size);have c1:=(HG6.out.bw.cell (p:=⟨b1,o1+j,none⟩) hb1).trans ce;have c2:=(HG6.out.bw.cell (p:=⟨b2,o2+kn,none⟩) hb2).trans ce2;have hknI:(kn:Int)<(notes.length:Int):=(by omega);have HWS:Hid (w.heap.size≤wr.heap.size):=Lh HG6.out.bw.size;have HQ6:=Lh HG6.out.q;clear hns hnq hkn hq hy hyS ce ce2 hb1 hb2
             go_wp2_with (first|(at_builtin;refine wpList_que (α:=OldL w.heap.size) rfl (.tmp 88) (.tmp 99) 41 rfl w.heap.size 56 (.agg #[.int .i64 0,.int .i64 0,.slice none 0 0,.slice none 0 0]) 64 Tryz.underlying41 Qbh rfl (show 0<4 by decide) ob2 _ ((qu1.drop sh++Qbd notes x j).map Av.mk) rfl HQ6.out Ap cp y.length (y.map Av.mk) rfl (by rw[qM]) (fun b=>b<w.heap.size) (HY.out.av (fun i h _=>h)) (fun i hi _ e=>by have:=(HQ6.out.lt i e.symm).1;omega) (fun i hi=>Nat.lt_of_lt_of_le hi HWS.out) (by rw[qM];have:=HYL.out;omega) (by rw[qM];have:=HYL.out;omega) HWS.out ?_;intro v' w' ob' hq' hg' hob';have HG7:=Lh (HG6.out.que (queue':=qu1.drop sh++Qbd notes x (j+1)) hg' (by rw[HNQ.out,←List.append_assoc,List.map_append];exact hq') hob');clear hq' hg' hob')|fail)
             go_roundw;(case rel=>exact⟨j+1,ob',by go_num,by omega,HG7⟩);case measure=>(first|(simp[intOf];done)|(simp[intOf];omega))
            ·obtain rfl:j=x.notes.length:=by omega
             have hjI:¬(x.notes.length:Int)<(x.notes.length:Int):=(by omega);obtain⟨qu2,hq2⟩:∃qu2,qu1++Qaf notes x=qu2:=⟨_,rfl⟩
             have HG7:Hid (PG w wr O ob2 u10 (qu2.drop sh) (.slice A9 pgs.length c9) pgs (.slice A5 (ln+1) c5) (bd.take (ln+1)) (.slice An sh cn) (qu2.take sh)):=Lh (by
              rw[←hq2,List.drop_append_of_le_length hsh,List.take_append_of_le_length hsh,←noteTo_all]
              exact HG6.out)
             have HQ2:=Lh hq2;have hqq:qu2.length≤1048576:=(by rw[←hq2,qA];exact HNL.out);have HQB2:Hid (qu2.length≤1048576):=Lh hqq;have hsh3:sh≤qu2.length:=by rw[←hq2,qA];omega
             have HS3:Hid (Qa1 qu2):=Lh (fun y hy=>by
              rw[←hq2,List.mem_append] at hy
              exact hy.elim (HS.out y) (Qem HSN.out x y))
             have HF3:Hid (Qak (bd.drop (ln+1)) notes+qu2.length≤f):=Lh (by have h1:=HF1.out;have h2:=HAL.out;rw[←hq2,qA];omega);have HFI2:Hid (fillP notes hn (bd.drop (ln+1)) (ln+1) (Qbr hn ln sh qu2.length) qu2=fillP notes hn bd 0 (min qu.length (hn-1)) qu):=Lh (by rw[←HFI.out,HGO.out,hq2]);clear hq2 HG6;obtain⟨wq,rfl⟩:∃wq:World,wq=wr:=⟨_,rfl⟩;go_upto_region 18 with(fail);go_loopw [10] (fun v10 wx=>∃(s:Nat) (ob3:Option Nat) (nv:Value),sh≤s∧s≤qu2.length∧(s=sh∨ln+1+s+1≤hn)∧Hid (PG w wx O ob3 v10 (qu2.drop s) (.slice A9 pgs.length c9) pgs (.slice A5 (ln+1) c5) (bd.take (ln+1)) nv (qu2.take s))) (fun v10 _=>vlen v10);(case atStart=>exact⟨sh,ob2,_,Nat.le_refl _,hsh3,.inl rfl,HG7⟩);case round=>
              clear HG7 m3;clear wq;obtain⟨s,ob3,nv,hs3,hs4,hs5,HG⟩:=hrel;obtain⟨A1,c1,hqv,-,-⟩:=HG.out.q.len;rw[qM,List.length_drop] at hqv;subst hqv;obtain⟨An,cn,hnv,-,-⟩:=HG.out.n.len;rw[qK,Nat.min_eq_left hs4] at hnv;subst hnv;have hs6:s≤1048576:=(by have:=HQB2.out;omega);have hln5:ln+1≤1048576:=(by have:=HLN.out;omega);go_upto_region 18 with(fail);go_cut [115] from 101 to 115 (fun v115 wx=>v115=.bool (decide (s<qu2.length)&&decide (ln+1+s+2≤hn))∧Hid (Below wr.heap.size wr wx));case first=>
               by_cases h1:s<qu2.length
               ·have h2:(0:Int)<((qu2.length-s:Nat):Int):=by omega
                have H1:=Lh h1;have hu:Qca (ln+1) s≤2097153:=(by unfold Qca;omega);have h1b:0<qu2.length-s:=(by omega);refine Qac [5] (fun i=>if i=5 then SP.val (.int .i64 (Qca (ln+1) s:Nat)) else SP.any) 15 (by kernel_rfl) (by kernel_rfl) ?_;intro T _ g hg hgm;have x0:∀d,(g d).cell? ⟨O,0,none⟩=some (.int .i64 0):=fun d=>(HG.out.o.to (hg d)).cell 0 rfl
                have x1:∀d,(g d).cell? ⟨O,1,none⟩=some (.int .i64 0):=fun d=>(HG.out.o.to (hg d)).cell 1 rfl
                have x2:∀d,(g d).cell? ⟨O,2,none⟩=some (.int .i64 0):=fun d=>(HG.out.o.to (hg d)).cell 2 rfl
                have x3:∀d,(g d).cell? ⟨O,3,none⟩=some (.int .i64 0):=fun d=>(HG.out.o.to (hg d)).cell 3 rfl
                have x4:∀d,(g d).cell? ⟨O,4,none⟩=some (.slice A5 (ln+1) c5):=fun d=>(HG.out.o.to (hg d)).cell 4 rfl
                have x5:∀d,(g d).cell? ⟨O,5,none⟩=some (.slice An s cn):=fun d=>(HG.out.o.to (hg d)).cell 5 rfl
                (repeat(refine Qab (by rfl) fun Kq hq=>?_;go_big_quiet_step (fail);refine wpQuiet_nil (hq _ ?_);clear hq Kq));refine Qah (by rfl) (by rfl) (fun d hG K Q hK=>?_) (fun v d hG hp Kr hr=>?_)
                ·go_simp;go_at_call 164;refine(rused_any A5 An c5 cn (ln+1) s (g d) hln5 hs6).mono ?_;rintro e W1 ⟨rfl,hb1⟩;go_simp;exact hK _ _ hb1 (rfl)
                have hp:v=.int .i64 (Qca (ln+1) s:Nat):=hp;subst hp;(try clear hp);clear hG;go_frame;refine hr _ ?_;clear hr Kr;(repeat(refine Qab (by rfl) fun Kq hq=>?_;go_big_quiet_step (fail);refine wpQuiet_nil (hq _ ?_);clear hq Kq));refine QbY (by kernel_rfl) (fun d hG=>?_) _;clear x0 x1 x2 x3 x4 x5;have HBd:=Lh (hg d);clear hG hg hgm;unfold Exit.then;generalize g d=w6 at*;clear g;go_wp2_with fail;go_meet
                exact⟨congrArg Value.bool (show decide ((Qca (ln+1) s:Int)+2-min (s:Int) 1≤(hn:Int))=(decide (s<qu2.length)&&decide (ln+1+s+2≤hn)) by
                 rw[decide_eq_true H1.out,Bool.true_and,Bool.eq_iff_iff,decide_eq_true_iff,decide_eq_true_iff]
                 unfold Qca
                 omega),HBd⟩
               ·have h2:¬(0:Int)<((qu2.length-s:Nat):Int):=by omega
                have H1:=Lh h1;have h1b:¬0<qu2.length-s:=(by omega);refine Qac [5] (fun i=>if i=5 then SP.any else SP.any) 15 (by kernel_rfl) (by kernel_rfl) ?_;intro T _ g hg hgm;have x5:∀d,(g d).cell? ⟨O,5,none⟩=some (.slice An s cn):=fun d=>(HG.out.o.to (hg d)).cell 5 rfl
                (repeat(refine Qab (by rfl) fun Kq hq=>?_;go_big_quiet_step (fail);refine wpQuiet_nil (hq _ ?_);clear hq Kq));refine wpR_pass (by rfl) (by rfl) ?_;go_frame;(repeat(refine Qab (by rfl) fun Kq hq=>?_;go_big_quiet_step (fail);refine wpQuiet_nil (hq _ ?_);clear hq Kq));refine QbY (by kernel_rfl) (fun d hG=>?_) _;clear x5;have HBd:=Lh (hg d);clear hG hg hgm;unfold Exit.then;generalize g d=w6 at*;clear g;go_wp2_with fail;go_meet;exact⟨by rw[decide_eq_false H1.out];rfl,HBd⟩
              case rest=>
               obtain⟨rfl,HBw⟩:=hcut;have HGw:=Lh (HG.out.to HBw.out);clear HG HBw;clear wr;obtain⟨wr,rfl⟩:∃wr:World,wr=wc:=⟨_,rfl⟩;by_cases hgo:s<qu2.length∧ln+1+s+2≤hn
               ·obtain⟨hgo1,hgo2⟩:=hgo;rw[decide_eq_true hgo1,decide_eq_true hgo2];obtain⟨A1',c1',e1',hsq1,-⟩:=HGw.out.q.len;obtain⟨rfl,rfl⟩:A1=A1'∧c1=c1':=by injection e1' with a b c;exact⟨a,c⟩
                obtain⟨b,o,Ag,cg,Am,cm,hA1,-,hbl1,e0,e1,e2,e3,hgS,hnS⟩:=Qa8 hsq1.unav (k:=0) (by rw[List.length_drop];omega);subst hA1;simp only[Nat.zero_mul,Nat.add_zero] at e0 e1 e2 e3;obtain⟨z,hx⟩:∃z,(qu2.drop s)[0]'(by rw[List.length_drop];omega)=z:=⟨_,rfl⟩;rw[hx] at e0 e1 e2 e3 hgS hnS;have HXQ:Hid (qu2[s]? =some z):=Lh (by rw[List.getElem_drop] at hx;rw[qG hgo1];simpa using congrArg some hx);have HSZ2:Hid (z.gaps.length≤100000∧z.notes.length≤100000):=Lh (HS3.out z (List.mem_of_getElem? HXQ.out));have HGS:=Lh hgS;have HNS:=Lh hnS;have HB1:Hid (b<wr.heap.size):=Lh hbl1;have HC1:Hid (qu2.length-s≤c1):=Lh (by have:=hsq1.1;rwa [qM,List.length_drop] at this);have hi0:(0:Int)<((qu2.length-s:Nat):Int):=(by omega);have HTS:Hid (qu2.take (s+1)=qu2.take s++[z]):=Lh (by rw[List.take_add_one,HXQ.out];rfl);clear hgS hnS hbl1 hx hsq1 e1';go_upto_region 19 with(fail);refine Qac [5,6] (fun i=>if i=5 then SP.copy wr.heap.size z else if i=6 then SP.rp wr.heap.size [z] else SP.any) 7 (by kernel_rfl) (by kernel_rfl) ?_;intro T _ g hg hgm;have q5:∀d,(g d).cell? ⟨O,5,none⟩=some (.slice An s cn):=fun d=>(HGw.out.o.to (hg d)).cell 5 rfl
                have l0:∀d,(g d).cell? ⟨b,o,none⟩=some (.int .i64 z.fr):=fun d=>((hg d).cell (p:=⟨b,o,none⟩) HB1.out).trans e0
                have l1:∀d,(g d).cell? ⟨b,o+1,none⟩=some (.int .i64 z.un):=fun d=>((hg d).cell (p:=⟨b,o+1,none⟩) HB1.out).trans e1
                have l2:∀d,(g d).cell? ⟨b,o+2,none⟩=some (.slice Ag z.gaps.length cg):=fun d=>((hg d).cell (p:=⟨b,o+2,none⟩) HB1.out).trans e2
                have l3:∀d,(g d).cell? ⟨b,o+3,none⟩=some (.slice Am z.notes.length cm):=fun d=>((hg d).cell (p:=⟨b,o+3,none⟩) HB1.out).trans e3
                (repeat(refine Qab (by rfl) fun Kq hq=>?_;go_big_quiet_step (fail);refine wpQuiet_nil (hq _ ?_);clear hq Kq));refine Qah (by rfl) (by rfl) (fun d hG K Q hK=>?_) (fun v d hG hp Kr hr=>?_)
                ·go_simp;go_at_call 162;refine(Qd7 Ag Am cg cm z (g d) (HGS.out.to (hg d)) (HNS.out.to (hg d)) (by have:=HSZ2.out;omega) (by have:=HSZ2.out;omega)).mono ?_;rintro e W1 ⟨A3,c3,A4,c4,rfl,ho3,ho4,hb1⟩;go_simp;exact hK _ _ hb1 (⟨A3,c3,A4,c4,rfl,ho3.re (hg d).size,ho4.re (hg d).size⟩)
                obtain⟨A3,c3,A4,c4,rfl,-⟩:=(show ∃A c A' c',v=.agg #[.int .i64 z.fr,.int .i64 z.un,.slice A z.gaps.length c,.slice A' z.notes.length c']∧_ from hp);(try clear hp);clear hG;go_frame;refine hr _ ?_;clear hr Kr;(repeat(refine Qab (by rfl) fun Kq hq=>?_;go_big_quiet_step (fail);refine wpQuiet_nil (hq _ ?_);clear hq Kq));refine Qah (by rfl) (by rfl) (fun d hG K Q hK=>?_) (fun v d hG hp Kr hr=>?_)
                ·obtain⟨A3',c3',A4',c4',he,ho3,ho4⟩:=(show ∃A c A' c',Value.agg #[.int .i64 z.fr,.int .i64 z.un,.slice A3 z.gaps.length c3,.slice A4 z.notes.length c4]=.agg #[.int .i64 z.fr,.int .i64 z.un,.slice A z.gaps.length c,.slice A' z.notes.length c']∧Own (g d) wr.heap.size 3 (.slice A z.gaps.length c) z.gaps∧Own (g d) wr.heap.size 3 (.slice A' z.notes.length c') z.notes from hG 5 (by kernel_rfl));obtain⟨rfl,rfl,rfl,rfl⟩:A3=A3'∧c3=c3'∧A4=A4'∧c4=c4':=by
                  have:=congrArg (fun v:Value=>match v with|.agg cs=>cs.toList|_=>[]) he;simp at this;exact⟨this.1.1,this.1.2,this.2.1,this.2.2⟩
                 have HR:Hid (Rep.R (g d) (Up wr.heap.size) [.int .i64 z.fr,.int .i64 z.un,.slice A3 z.gaps.length c3,.slice A4 z.notes.length c4] z):=Lh ⟨_,_,rfl,QaZ ho3 rfl (fun b hb=>hb),QaZ ho4 rfl (fun b hb=>hb)⟩;clear ho3 ho4 he;go_simp;exact hK _ _ (bR.alloc nL _) (QcL (hg d).size HR.out)
                obtain⟨⟨Az,cz,rfl⟩,-⟩:=(show(∃A c,v=.slice A [z].length c)∧_ from hp);(try clear hp);clear hG;go_frame;refine hr _ ?_;clear hr Kr;refine QaB 3 (by rfl) (by rfl) (fun d hG=>?_);have H6:Hid (Rep.R (g d) (Up wr.heap.size) [.slice Az [z].length cz] [z]):=Lh (show(∃A c,Value.slice Az [z].length cz=Value.slice A [z].length c)∧Rep.R (g d) (Up wr.heap.size) [.slice Az [z].length cz] [z] from hG 6).2;have HGd:=Lh (HGw.out.to (hg d));have HLT:=Lh HGw.out.n.lt;have HQL:=Lh HGw.out.q.lt;have HOT:=Lh HGw.out.b.lt;have HOL:Hid (O<wr.heap.size):=Lh HGw.out.o.lt;have HSZ:Hid (wr.heap.size≤(g d).heap.size):=Lh (hg d).size;clear hG hg hgm q5 l0 l1 l2 l3 e0 e1 e2 e3;generalize g d=w6 at*;clear g
                have HSl:Hid (Sl w6 (Up wr.heap.size) Az cz ([z].map (Av.mk:LineP→Av LineP (PE O ob3 (Value.slice A5 (ln+1) c5).ownBlock)))):=Lh (by
                 obtain⟨A',c',e,hs,-⟩:=H6.out
                 cases e
                 exact hs.av (fun i hi _=>⟨Nat.lt_of_lt_of_le HOL.out hi,fun e=>by have:=(HQL.out i e.symm).2;have:wr.heap.size≤i:=hi;omega,fun e=>by have:=(HOT.out i e.symm).2;have:wr.heap.size≤i:=hi;omega⟩))
                have HLM:Hid (((qu2.take s).map (Av.mk:LineP→Av LineP (PE O ob3 (Value.slice A5 (ln+1) c5).ownBlock))).length=s):=Lh (by rw[qM];rw[qK];omega);refine Qag (i:=7) (oi:=_) rfl (by kernel_rfl) (by rfl) (fun K hK=>?_);refine Qb8 (α:=Av LineP (PE O ob3 (Value.slice A5 (ln+1) c5).ownBlock)) _ (.tmp 117) (.tmp 122) 41 rfl (O+1) 56 (.agg #[.int .i64 0,.int .i64 0,.slice none 0 0,.slice none 0 0]) 64 Tryz.underlying41 Qbh rfl (show 0<4 by decide) (.slice An s cn) ((qu2.take s).map Av.mk) rfl HGd.out.n.own Az cz 1 ([z].map Av.mk) rfl rfl (Up wr.heap.size) HSl.out (fun i (hi:wr.heap.size≤i) _ e=>by have:=(HLT.out i e.symm).2;omega) (by rw[HLM.out];have:=HQB2.out;omega) (by rw[HLM.out];have:=HQB2.out;omega) (by have:=HOL.out;have:=HSZ.out;omega) ?_;intro v5 w5 hown5 hg5 hat5;obtain⟨A6,c6,e5,-⟩:=hown5.form;rw[qA,HLM.out] at e5;simp only[qM,qC,List.length_nil,Nat.zero_add] at e5;subst e5;obtain⟨q5,f5,hpg5⟩:=HGd.out.note hown5 hg5 hat5;have r5:=f5 5;have HG8:=Lh hpg5;refine hK _ _ ?_;clear hK K hown5 hg5 hat5 hpg5 f5 HSl H6 HGd;(try simp only[Act.put,sA0]);refine Qag (i:=8) (oi:=_) rfl (by kernel_rfl) (by rfl) (fun K hK=>?_);go_simp;refine hK _ _ ?_;clear hK K;(try go_frame);refine Qag (i:=9) (oi:=_) rfl (by kernel_rfl) (by rfl) (fun K hK=>?_);go_simp;refine hK _ _ ?_;clear hK K;(try go_frame);clear q5 r5;refine wpAny_done (by kernel_rfl) ?_ _;unfold Exit.then;have hcb:=HC1.out;have hcI:(1:Int)≤(c1:Int):=(by omega);have hlI:(1:Int)≤((qu2.length-s:Nat):Int):=(by omega);obtain⟨ob4,hob3,hq3⟩:=HG8.out.q.cut (k:=1) (by rw[qM,List.length_drop];omega);rw[←List.map_drop,List.drop_drop] at hq3;by_cases hc1:c1=1
                ·rw[if_pos hc1,hc1] at hq3;have HGC:=Lh (HG8.out.cut hq3 hob3);clear hq3;go_wp2_with fail;go_roundw;(case rel=>exact⟨s+1,ob4,_,by omega,by omega,.inr (by omega),Lh (by rw[HTS.out];exact HGC.out)⟩);case measure=>(simp only[vlen];omega)
                ·rw[if_neg hc1,show(some (⟨b,o,none⟩:Addr)).map (·.add (1*Rep.size (OldL w.heap.size)))=some ⟨b,o+4,none⟩ from rfl] at hq3;have HGC:=Lh (HG8.out.cut hq3 hob3);clear hq3;go_wp2_with fail;go_roundw;(case rel=>exact⟨s+1,ob4,_,by omega,by omega,.inr (by omega),Lh (by rw[HTS.out];exact HGC.out)⟩);case measure=>(simp only[vlen];omega)
               ·have hse:s=Qbr hn ln sh qu2.length:=moved hs3 hs4 hs5 (by omega);rw[show(decide (s<qu2.length)&&decide (ln+1+s+2≤hn))=false by rw[Bool.and_eq_false_iff,decide_eq_false_iff_not,decide_eq_false_iff_not];omega];have HFI3:Hid (fillP notes hn (bd.drop (ln+1)) (ln+1) s qu2=fillP notes hn bd 0 (min qu.length (hn-1)) qu):=Lh (by rw[hse];exact HFI2.out);have hln6:ln+1≤bd.length:=HLN.out;clear hse hgo HFI2;go_wp2_with fail;go_roundw;(case rel=>exact⟨ln+1,s,ob3,_,_,qu2,by go_num,hln6,hs4,HGw,HFI3,HF3,HS3⟩);case measure=>(first|(simp[intOf];done)|(simp[intOf];omega))
          ·rw[Bool.not_eq_true] at hfit;rw[hfit];have hd:=HFI.out.symm.trans (fillP_stop (notes:=notes) hfit);have hnn:¬(bd.length=0∧qu.length=0):=(by have:=HFIN.out;omega);obtain⟨hP1,hP2⟩:=pages_step h4 HF.out.1 hnn hd;have hdd:body.drop (at_+ln)=bd.drop ln:=(by rw[←List.drop_drop,HBD.out]);obtain⟨p,hp⟩:∃p:PageP,⟨0,0,0,0,bd.take ln,qu1.take sh⟩=p:=⟨_,rfl⟩
           have HT2:Hid ((pgs++[p])++setPages notes hn (f-1) (body.drop (at_+ln)) (qu1.drop sh)=setPages notes hn (Qak body notes) body []):=Lh (by
            rw[hdd,←HT.out,hP2,hp,List.append_assoc];rfl)
           have HF2:Hid (Qak (body.drop (at_+ln)) notes+(qu1.drop sh).length≤f-1∧f-1≤1048576):=Lh (by rw[hdd];exact⟨hP1,by omega⟩);have HS2:Hid (Qa1 (qu1.drop sh)):=Lh (fun x hx=>HS.out x (List.mem_of_mem_drop hx))
           have HPN:Hid (pgs.length+1≤N):=Lh (by
            have h1:=congrArg List.length HT2.out
            rw[qA,qA,HNE.out] at h1
            simp at h1
            omega)
           have hNB:N≤1048576:=(by rw[←HNE.out];exact Nat.le_trans (QbA _ _ _ _ _) HALL.out);have hpb:pgs.length≤1048576:=(by have:=HPN.out;omega);have HPB:=Lh hpb;have hbt:(bd.take ln).length≤1048576:=(by rw[qK];omega);have hqt:(qu1.take sh).length≤1048576:=(by rw[qK];omega);have hba:Below wr.heap.size wr (wr.alloc (.cells #[.int .i64 0,.int .i64 0,.int .i64 0,.int .i64 0,.slice Ab ln cb,.slice An sh cn] 43)):=bR.alloc nL _;have HGa:=Lh (HGw.out.to hba);have hrp:=HGa.out.rep (by omega) (by omega);rw[hp] at hrp;have HPO:Hid (∀q,(Value.slice A9 pgs.length c9).ownBlock=some q→q<O):=Lh (fun q hq=>(HGw.out.pg.at_ q hq).1.2);have HOG:Hid (w.heap.size≤O):=Lh HGw.out.og
           have HRE:Hid (Rep.R (wr.alloc (.cells #[.int .i64 0,.int .i64 0,.int .i64 0,.int .i64 0,.slice Ab ln cb,.slice An sh cn] 43)) (fun b=>some b≠(Value.slice A9 pgs.length c9).ownBlock) [.int .i64 0,.int .i64 0,.int .i64 0,.int .i64 0,.slice Ab ln cb,.slice An sh cn] (⟨p⟩:Av PageP (fun i=>w.heap.size≤i∧some i≠ob1))):=
            Lh (Rep.mono (α:=PageP) hrp (fun i hi _=>⟨fun e=>by have:=HPO.out i e.symm;have:=hi.1;omega,by have:=HOG.out;have:=hi.1;omega,hi.2⟩))
           have HOP:Hid (Own (wr.alloc (.cells #[.int .i64 0,.int .i64 0,.int .i64 0,.int .i64 0,.slice Ab ln cb,.slice An sh cn] 43)) w.heap.size 43 (.slice A9 (pgs.map (Av.mk:PageP→Av PageP (fun i=>w.heap.size≤i∧some i≠ob1))).length c9) (pgs.map (Av.mk:PageP→Av PageP (fun i=>w.heap.size≤i∧some i≠ob1)))):=
            Lh (by rw[qM];exact(HGa.out.pg.mono (Q:=fun i=>w.heap.size≤i∧some i≠ob1) (fun i hi _=>⟨hi.1.1,hi.2⟩)).own)
           have hml:(pgs.map (Av.mk:PageP→Av PageP (fun i=>w.heap.size≤i∧some i≠ob1))).length=pgs.length:=qM _;rw[hml] at HOP;have HML:=Lh hml;have x0:=HGw.out.o.cell 0 rfl;have x1:=HGw.out.o.cell 1 rfl;have x2:=HGw.out.o.cell 2 rfl;have x3:=HGw.out.o.cell 3 rfl;have x4:=HGw.out.o.cell 4 rfl;have x5:=HGw.out.o.cell 5 rfl;have HWZ:Hid (w.heap.size≤wr.heap.size):=Lh HGw.out.bw.size;have hatl:at_+ln≤body.length:=(by omega);clear hd hnn hP1 hP2 hdd hp hrp hba hml hbt hqt HGw hfit
           go_wp2_with (first|(at_builtin;refine Qal (α:=Av PageP (fun i=>w.heap.size≤i∧some i≠ob1)) _ rfl (.tmp 129) (.tmp 131) 32 rfl w.heap.size 43 (.agg #[.int .i64 0,.int .i64 0,.int .i64 0,.int .i64 0,.slice none 0 0,.slice none 0 0]) 80 Tryz.underlying32 QcU rfl (show 0<6 by decide) (.slice A9 pgs.length c9) (pgs.map Av.mk) rfl HOP.out wr.heap.size _ ⟨p⟩ (0,0) 43 rfl (heap_alloc_new wr _) HRE.out (by rw[HML.out];have:=HPB.out;omega) (by rw[HML.out];have:=HPB.out;omega) (by have:=HWZ.out;simp;omega) _ rfl ?_;intro g5 p5 w5 hown5 hg5 hat5 hlt5;rw[HML.out] at hown5 ⊢;have HPS:=Lh (HGa.out.page hg5 hown5 (fun k hk=>by cases hk;exact hat5));clear hown5 hg5 hat5 hlt5)|fail)
           clear x0 x1 x2 x3 x4 x5;go_roundw;(case rel=>exact⟨at_+ln,ob1,qu1.drop sh,pgs++[p],f-1,by go_num,hatl,by first|exact HPS|(rw[List.length_drop] at *;exact HPS),HF2,HT2,HS2⟩);case measure=>(have:=HPN.out;simp only[vlen];omega)
    ·rw[show(decide (at_<body.length)||decide (0<qu.length))=false by rw[Bool.or_eq_false_iff,decide_eq_false_iff_not,decide_eq_false_iff_not];omega];have hat2:at_=body.length:=(by omega);obtain rfl:qu=[]:=List.eq_nil_of_length_eq_zero (by omega)
     have HFI:Hid (pgs=setPages notes hn (Qak body notes) body []):=Lh (by
      have h1:=HT.out
      rwa [hat2,List.drop_length,Qdn,List.append_nil] at h1)
     go_wp2_with fail;go_ret2;exact⟨_,rfl,fun _=>by rw[←HFI.out];exact(HP.out.pg.mono (fun i hi _=>hi.1)).bd,fun h=>absurd rfl h,HP.out.bw⟩
 ·have HE:=Lh hE;have hE0:¬QaE body notes h=0:=hE;obtain⟨pe,hpe⟩:∃pe,QaE body notes h=pe:=⟨_,rfl⟩;rw[hpe] at HC HE hE0 ⊢;clear hE;go_enter Tryz.func112,Tryz.ntmps112;go_wp2_with (first|(go_at_call 161;refine HC.out.mono ?_;rintro e w2 ⟨rfl,hb2⟩;have HB2:=Lh hb2;clear hb2)|fail);go_ret2;exact⟨_,rfl,fun h=>absurd h HE.out,fun _=>rfl,HB2.out⟩
set_option maxRecDepth 100000 in
theorem rText_any (A B:Option Addr)(c d:Nat)(a b:List (List Word))(m h:Int)(w:World)(ha:Sl w (fun b=>b<w.heap.size) A c a)(hb:Sl w (fun b=>b<w.heap.size) B d b)(hla:a.length≤1048576)(hlb:b.length≤1048576):
 Calls Tryz.prog 56 #[.agg #[.slice A a.length c,.slice B b.length d],.int .i64 m,.int .i64 h] w fun e w'=>∃v,e=.returned (.tuple #[v,.int .i64 (textE a b m h)])∧ (textE a b m h=0→Own w' w.heap.size 43 v ((QaJ a b m h.toNat).map (Bd.mk:PageP→Bd PageP w.heap.size)))∧(textE a b m h≠0→v=.slice none 0 0)∧Below w.heap.size w w':=by
 have hba:Below w.heap.size w (w.alloc (.cells #[.slice A a.length c,.slice B b.length d] 36)):=bR.alloc nL _;have HL:=Lh (rLines_any A B c d a b m (w.alloc (.cells #[.slice A a.length c,.slice B b.length d] 36)) (ha.to hba) (hb.to hba) hla hlb);have HBA:=Lh hba;have c0:(w.alloc (.cells #[.slice A a.length c,.slice B b.length d] 36)).cell? ⟨w.heap.size,0,none⟩=some (.slice A a.length c):=cell_of_row _ _ 0 _ _ _ (heap_alloc_new w _);have c1:(w.alloc (.cells #[.slice A a.length c,.slice B b.length d] 36)).cell? ⟨w.heap.size,1,none⟩=some (.slice B b.length d):=cell_of_row _ _ 1 _ _ _ (heap_alloc_new w _);obtain⟨q,hq⟩:∃q,QaP a b m=q:=⟨_,rfl⟩;rw[hq] at HL;have HQ:=Lh hq;clear ha hb hba hq;by_cases hq0:q=0
 ·subst hq0;go_enter Tryz.func56,Tryz.ntmps56;go_wp2_with (first|(go_at_call 111;refine HL.out.mono ?_;rintro e w2 ⟨v,u,rfl,h1,-,hb2⟩;have h1:=h1 trivial)|fail);obtain⟨A1,c1,rfl,hs1⟩:=Qbp h1.1 nL;obtain⟨A2,c2,rfl,hs2⟩:=Qbp h1.2 nL;obtain⟨hfn,hm1,hm2⟩:=QcD HQ.out;have hlen:=Qb3 hfn hm1 hm2;have hsm:=hfn.small m;have hnl:(Qam a b m).length≤1048576:=(by unfold Qam;rw[QaS];exact hlb);have HB2:=Lh (HBA.out.trans (hb2.mono HBA.out.size));have HSB:Hid (w.heap.size≤w2.heap.size):=Lh HB2.out.size;refine(rset_any A1 A2 c1 c2 (QaR a m) (Qam a b m) h w2 (hs1.mono fun i h _=>h.1) (hs2.mono fun i h _=>h.1) hnl (by omega) hsm.1 hsm.2).mono ?_;rintro e w3 ⟨v,rfl,h2,h3,hb3⟩;have HE:Hid (textE a b m h=QaE (QaR a m) (Qam a b m) h):=Lh (by unfold textE;rw[HQ.out,if_neg (by simp)]);have H2:=Lh h2;have H3:=Lh h3;have HB3:=Lh (HB2.out.trans (hb3.mono HB2.out.size));clear h1 hs1 hs2 hfn hm1 hm2 hlen hsm hnl h2 h3 hb3 hb2 HL;go_wp2_with fail;go_ret2;rw[HE.out];refine⟨_,rfl,fun h0=>?_,H3.out,HB3.out⟩;have h4:=(H2.out h0).re HSB.out;refine h4.conv _ (by rw[qM,qM];rfl) rfl (fun i h1 h2 es he=>?_);rw[List.getElem_map] at he ⊢;exact Rep.mono (α:=PageP) he (fun b hb _=>⟨hb.1,Nat.le_trans HSB.out hb.2⟩)
 ·have hqb:(q != 0)=true:=by simpa using hq0
  have HQ0:=Lh hq0;clear hq0;go_enter Tryz.func56,Tryz.ntmps56;go_wp2_with (first|(go_at_call 111;refine HL.out.mono ?_;rintro e w2 ⟨v,u,rfl,-,h1,hb2⟩;have HB2:=Lh (HBA.out.trans (hb2.mono HBA.out.size));clear h1 hb2)|fail);go_ret2;have HE:textE a b m h=q:=(by unfold textE;rw[HQ.out,if_pos HQ0.out]);exact⟨_,by rw[HE];rfl,fun h0=>absurd (HE▸h0) HQ0.out,fun _=>rfl,HB2.out⟩
structure LB (w:World)(b:Nat)(A:Option Addr)(c:Nat)(l:List SectP):Prop where
 bx:ABox w b 25 [.int .i64 500,.int .i64 4,.slice A l.length c]
 sm:SM w A c l
theorem region_cut {P:Program}{c:Code}{a:Act}{w:World}{Q:Exit→Act→World→Prop}(R:Act→Act→World→Prop)(h1:c.wp P (fun e a' w'=>e=.normal∧R a a' w') a w)(h2:∀a' w',R a a' w'→Q .normal a' w'):c.wp P Q a w:=
 wp_mono h1 (fun e a' w' h=>by obtain⟨rfl,h⟩:=h;exact h2 a' w' h)
structure LM (m h:Int)(w:World)(b:Nat)(A:Option Addr)(c:Nat)(l:List SectP):Prop where
 bx:ABox w b 25 [.int .i64 m,.int .i64 h,.slice A l.length c]
 sm:SM w A c l
structure LT (w:World)(x:Nat)(A:Option Addr)(c:Nat)(B:Option Addr)(d:Nat)(a b:List (List Word)):Prop where
 bx:ABox w x 36 [.slice A a.length c,.slice B b.length d]
 tm:TM w A c B d a b
theorem pageS_at {w:World}{S:Nat→Prop}{A:Option Addr}{c:Nat}{l:List PageP}(h:Sl w S A c l){k:Nat}(hk:k<l.length):
 ∃b o A1 c1 A2 c2,A=some ⟨b,o,none⟩∧S b∧b<w.heap.size∧w.cell? ⟨b,o+k*6,none⟩=some (.int .i64 l[k].num)∧w.cell? ⟨b,o+k*6+1,none⟩=some (.int .i64 l[k].suf)∧w.cell? ⟨b,o+k*6+2,none⟩=some (.int .i64 l[k].entry)∧ w.cell? ⟨b,o+k*6+3,none⟩=some (.int .i64 l[k].ver)∧w.cell? ⟨b,o+k*6+4,none⟩=some (.slice A1 l[k].body.length c1)∧w.cell? ⟨b,o+k*6+5,none⟩=some (.slice A2 l[k].notes.length c2)∧Sl w S A1 c1 l[k].body∧Sl w S A2 c2 l[k].notes:=by
 obtain⟨b,o,va,vb,rfl,hb,hlt,h0,h1,h2,h3,h4,h5,⟨A1,c1,e1,r1,-⟩,⟨A2,c2,e2,r2,-⟩⟩:=Qc1 h hk;cases e1;cases e2;exact⟨b,o,A1,c1,A2,c2,rfl,hb,hlt,h0,h1,h2,h3,h4,h5,r1,r2⟩
end Go.Proofs.YtegaapiocihcpaaGreatDoor
