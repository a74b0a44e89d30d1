/- Texts of VwCSm. -/
import Derived.Test.YtegaapiocihcpaaGreatDoorVZi4
import Derived.RangeFuncNested
import Derived.RangeFuncBound
import Derived.RangeFuncCalls
import Derived.RangeFuncLeaves
import Derived.RangeFuncBox
import Derived.Shelf.Abstract
import Derived.Shelf.RegionOpen
import Derived.OwnWalkIn
import Derived.TacticsInMore
import Derived.LoopNIn
import Derived.LoopIn
set_option maxHeartbeats 16000000
namespace Go.Proofs.YtegaapiocihcpaaGreatDoor
open Go.RowKit
theorem QdU {α:Type}(l:List α)(i j:Nat):(Qdi l i j).length≤l.length:=by
 unfold Qdi;rw[List.length_drop,qK];omega
theorem gapsP_le (ws:List Int)(m:Int)(last:Bool):(QdL ws m last).length≤ws.length:=by
 unfold QdL;split
 ·simp
 ·split
  ·rw[List.length_replicate];omega
  ·rw[qM,List.length_range];omega
theorem notesP_le (l:List Word):(QaA l).length≤l.length:=by
 unfold QaA;rw[qM];exact List.length_filter_le _ _
theorem QbY {N:Nat}(ws:List Word)(wd:List Int)(m first:Int)(h1:ws.length≤N)(h2:wd.length≤N):∀(es:List Nat) (i:Nat),∀x∈Qan ws wd m first i es,x.gaps.length≤N∧x.notes.length≤N
 |[],_,x,hx=>absurd hx (by simp[Qan])
 |e::es,i,x,hx=>by
  rw[Qan] at hx;rcases List.mem_cons.1 hx with rfl|hx
  ·exact⟨Nat.le_trans (gapsP_le _ _ _) (Nat.le_trans (QdU _ _ _) h2),Nat.le_trans (notesP_le _) (Nat.le_trans (QdU _ _ _) h1)⟩
  ·exact QbY ws wd m first h1 h2 es e x hx
theorem setP_small {p:List Word}(first m:Int)(h:p.length≤500):Qbt (QdN p first m):=by
 intro x hx;have:=QbY (N:=500) p (Qad p) m first h (by unfold Qad;rw[qM];exact h) _ _ x hx
 omega
theorem Qb0 (m:Int):∀(l:List (List Word)) (first:Int),(∀p∈l,p.length≤500)→∀n∈Qar m first l,Qbt n
 |[],_,_,n,hn=>absurd hn (by simp[Qar])
 |p::l,first,h,n,hn=>by
  rw[Qar] at hn;rcases List.mem_cons.1 hn with rfl|hn
  ·exact setP_small first m (h p (by simp))
  ·exact Qb0 m l _ (fun q hq=>h q (by simp[hq])) n hn
theorem FineT.small {a b:List (List Word)}(h:FineT a b)(m:Int):Qbt (QaL a m)∧∀n∈Qal a b m,Qbt n:=
 ⟨fun x hx=>by
  unfold QaL at hx
  obtain⟨l,hl,hx⟩:=List.mem_flatten.1 hx
  exact Qb0 m a 0 (fun p hp=>(h.p p (by simp[hp])).2) l hl x hx,fun n hn=>Qb0 m b _ (fun p hp=>(h.p p (by simp[hp])).2) n hn⟩
theorem Qco {a b:List (List Word)}(h:FineT a b){m:Int}(h1:500≤m)(h2:m≤2000):(QaL a m).length+(Qal a b m).flatten.length≤100000:=by
 have e1:=Qbj m a 0 (fun p hp=>h.reg h1 h2 (by simp[hp]));have e2:=Qbj m b (tot a:Nat) (fun p hp=>h.reg h1 h2 (by simp[hp]));have e3:=h.tot;rw[QaZ] at e3;unfold QaL Qal;omega
theorem Qdy {a b:List (List Word)}{m:Int}(h:Qbf a b m=0):FineT a b∧500≤m∧m≤2000:=by
 unfold Qbf at h;split at h
 ·rename_i hc;exact absurd h hc
 ·rename_i hc;split at h
  ·rename_i hm;exact⟨chk_zero (Decidable.not_not.1 hc),hm⟩
  ·exact absurd h (by decide)
set_option maxRecDepth 100000 in
theorem ptext_any (A B:Option Addr)(c d:Nat)(a b:List (List Word))(m h:Int)(w:World)(hT:Laid w)(ha:Sl w (fun b=>b<w.heap.size) A c a)(hb:Sl w (fun b=>b<w.heap.size) B d b)(hI:I64 h)(hla:a.length≤1048576)(hlb:b.length≤1048576):
 Calls Tryz.prog 125 #[.agg #[.slice A a.length c,.slice B b.length d],.int .i64 m,.int .i64 h] w fun e w'=>∃v,e=.returned (.tuple #[v,.int .i64 (textE a b m h)])∧ (textE a b m h=0→Own w' w.heap.size 43 v ((Qay a b m h.toNat).map (Bd.mk:PageP→Bd PageP w.heap.size)))∧(textE a b m h≠0→v=.slice none 0 0)∧Below w.heap.size w w':=by
 have hba:Below w.heap.size w (w.alloc (.cells #[.slice A a.length c,.slice B b.length d] 36)):=bR.alloc nL _;have HL:=Lh (lines_any A B c d a b m (w.alloc (.cells #[.slice A a.length c,.slice B b.length d] 36)) (hT.to hba) (ha.to hba) (hb.to hba) hla hlb);have HBA:=Lh hba;have c0:(w.alloc (.cells #[.slice A a.length c,.slice B b.length d] 36)).cell? ⟨w.heap.size,0,none⟩=some (.slice A a.length c):=cell_of_row _ _ 0 _ _ _ (heap_alloc_new w _);have c1:(w.alloc (.cells #[.slice A a.length c,.slice B b.length d] 36)).cell? ⟨w.heap.size,1,none⟩=some (.slice B b.length d):=cell_of_row _ _ 1 _ _ _ (heap_alloc_new w _);obtain⟨q,hq⟩:∃q,Qbf a b m=q:=⟨_,rfl⟩;rw[hq] at HL;have HQ:=Lh hq;clear hT ha hb hba hq;by_cases hq0:q=0
 ·subst hq0;go_enter Tryz.func125,Tryz.ntmps125;go_wp2_with (first|(go_at_call 40;refine HL.out.mono ?_;rintro e w2 ⟨v,u,rfl,h1,-,hb2⟩;have h1:=h1 trivial)|fail);obtain⟨A1,c1,rfl,hs1⟩:=QcI h1.1 nL;obtain⟨A2,c2,rfl,hs2⟩:=QcI h1.2 nL;obtain⟨hfn,hm1,hm2⟩:=Qdy HQ.out;have hlen:=Qco hfn hm1 hm2;have hsm:=hfn.small m;have hnl:(Qal a b m).length≤1048576:=(by unfold Qal;rw[Qa2];exact hlb);have HB2:=Lh (HBA.out.trans (hb2.mono HBA.out.size));have HSB:Hid (w.heap.size≤w2.heap.size):=Lh HB2.out.size;refine(pset_any A1 A2 c1 c2 (QaL a m) (Qal a b m) h w2 (hs1.mono fun i h _=>h.1) (hs2.mono fun i h _=>h.1) hI hnl (by omega) hsm.1 hsm.2).mono ?_;rintro e w3 ⟨v,rfl,h2,h3,hb3⟩;have HE:Hid (textE a b m h=QaX (QaL a m) (Qal a b m) h):=Lh (by unfold textE;rw[HQ.out,if_neg (by simp)]);have H2:=Lh h2;have H3:=Lh h3;have HB3:=Lh (HB2.out.trans (hb3.mono HB2.out.size));clear h1 hs1 hs2 hfn hm1 hm2 hlen hsm hnl h2 h3 hb3 hb2 HL;go_wp2_with fail;go_ret2;rw[HE.out];refine⟨_,rfl,fun h0=>?_,H3.out,HB3.out⟩;have h4:=(H2.out h0).re HSB.out;refine h4.conv _ (by rw[qM,qM];rfl) rfl (fun i h1 h2 es he=>?_);rw[List.getElem_map] at he ⊢;exact Rep.mono (α:=PageP) he (fun b hb _=>⟨hb.1,Nat.le_trans HSB.out hb.2⟩)
 ·have hqb:(q != 0)=true:=by simpa using hq0
  have HQ0:=Lh hq0;clear hq0;go_enter Tryz.func125,Tryz.ntmps125;go_wp2_with (first|(go_at_call 40;refine HL.out.mono ?_;rintro e w2 ⟨v,u,rfl,-,h1,hb2⟩;have HB2:=Lh (HBA.out.trans (hb2.mono HBA.out.size));clear h1 hb2)|fail);go_ret2;have HE:textE a b m h=q:=(by unfold textE;rw[HQ.out,if_pos HQ0.out]);exact⟨_,by rw[HE];rfl,fun h0=>absurd (HE▸h0) HQ0.out,fun _=>rfl,HB2.out⟩
def Qa5 (m h:Int)(a b:List (List Word)):Int:=if textE a b m h≠0 then textE a b m h else if tot (a++b)=0 then 1 else 0
theorem Qa0 {a b:List (List Word)}{m h:Int}(hE:textE a b m h=0):FineT a b∧(500≤m∧m≤2000)∧QaX (QaL a m) (Qal a b m) h=0:=by
 unfold textE at hE;split at hE
 ·rename_i h1;exact absurd hE h1
 ·rename_i h1;have h2:=Qdy (Decidable.not_not.1 h1);exact⟨h2.1,h2.2,hE⟩
set_option maxRecDepth 100000 in
theorem wrong_any (A B:Option Addr)(c d:Nat)(a b:List (List Word))(m h:Int)(vs:Value)(_hv:vs.oneCell'=true)(w:World)(hT:Laid w)(ha:Sl w (fun b=>b<w.heap.size) A c a)(hb:Sl w (fun b=>b<w.heap.size) B d b)(hI:I64 h)(hla:a.length≤1048576)(hlb:b.length≤1048576):
 Calls Tryz.prog 105 #[.agg #[.int .i64 m,.int .i64 h,vs],.agg #[.slice A a.length c,.slice B b.length d]] w fun e w'=>e=.returned (.int .i64 (Qa5 m h a b))∧Below w.heap.size w w':=by
 obtain⟨wb,hwb⟩:∃wb,(w.alloc (.cells #[.int .i64 m,.int .i64 h,vs] 25)).alloc (.cells #[.slice A a.length c,.slice B b.length d] 36)=wb:=⟨_,rfl⟩;have hba:Below w.heap.size w wb:=by rw[←hwb];exact(bR.alloc nL _).alloc (by simp) _
 have hx0:ABox wb w.heap.size 25 [.int .i64 m,.int .i64 h,vs]:=by rw[←hwb];exact(Below.heap_alloc _ _ _ (by simp)).trans (heap_alloc_new w _)
 have hx1:ABox wb (w.heap.size+1) 36 [.slice A a.length c,.slice B b.length d]:=by rw[←hwb];exact Qak (by simp)
 have HX1:=Lh hx1;have HP:=Lh (ptext_any A B c d a b m h wb (hT.to hba) (ha.to hba) (hb.to hba) hI hla hlb);have HSA:=Lh (ha.to hba);have HSB:=Lh (hb.to hba);have HBA:=Lh hba;have c0:=hx0.cell 0 rfl;have c1:=hx0.cell 1 rfl;have d0:=hx1.cell 0 rfl;have d1:=hx1.cell 1 rfl;obtain⟨q,hq⟩:∃q,textE a b m h=q:=⟨_,rfl⟩;rw[hq] at HP;have HQ:=Lh hq;clear hT ha hb hba hq hx0 hx1;by_cases hq0:q=0
 ·subst hq0;obtain⟨hfn,-,-⟩:=Qa0 HQ.out;have htot:=hfn.tot;have HE:Hid (Qa5 m h a b=if tot (a++b)=0 then 1 else 0):=Lh (by unfold Qa5;rw[HQ.out,if_neg (by simp)])
  have HCT:Hid (∀W,Below wb.heap.size wb W→Calls Tryz.prog 151 #[.agg #[.slice A a.length c,.slice B b.length d]] W fun e w'=>e=.returned (.int .i64 (tot (a++b):Int))∧Below W.heap.size W w'):=Lh (fun W hW=>
   count_any A B c d a b W (HSA.out.to hW) (HSB.out.to hW) hla hlb (by omega))
  clear hfn HQ;go_enter Tryz.func105,Tryz.ntmps105;go_upto_region 1 with(fail);have HWB:=Lh hwb;clear hwb;by_cases ht0:tot (a++b)=0
  ·rw[ht0] at HCT;rw[if_pos ht0] at HE;clear ht0 htot
   go_wp2_with (first|(go_at_call 125;refine HP.out.mono ?_;rintro e w2 ⟨v,rfl,-,-,hb2⟩;have e0:w2.cell? ⟨w.heap.size+1,0,none⟩=some (.slice A a.length c):=(HX1.out.to hb2).cell 0 rfl;have e1:w2.cell? ⟨w.heap.size+1,1,none⟩=some (.slice B b.length d):=(HX1.out.to hb2).cell 1 rfl;have HB2:=Lh hb2;clear hb2)|(go_at_call 151;refine(HCT.out _ HB2.out).mono ?_;rintro e w3 ⟨rfl,hb3⟩;have HB3:=Lh (HBA.out.trans ((HB2.out.trans (hb3.mono HB2.out.size)).mono HBA.out.size));clear hb3)|fail)
   go_ret;exact⟨by rw[HE.out];rfl,HB3.out⟩
  ·have hti:((tot (a++b):Int)==0)=false:=by rw[beq_eq_false_iff_ne];omega
   rw[if_neg ht0] at HE;clear ht0 htot;generalize (tot (a++b):Int)=tt at*
   go_wp2_with (first|(go_at_call 125;refine HP.out.mono ?_;rintro e w2 ⟨v,rfl,-,-,hb2⟩;have e0:w2.cell? ⟨w.heap.size+1,0,none⟩=some (.slice A a.length c):=(HX1.out.to hb2).cell 0 rfl;have e1:w2.cell? ⟨w.heap.size+1,1,none⟩=some (.slice B b.length d):=(HX1.out.to hb2).cell 1 rfl;have HB2:=Lh hb2;clear hb2)|(go_at_call 151;refine(HCT.out _ HB2.out).mono ?_;rintro e w3 ⟨rfl,hb3⟩;have HB3:=Lh (HBA.out.trans ((HB2.out.trans (hb3.mono HB2.out.size)).mono HBA.out.size));clear hb3)|fail)
   go_ret;exact⟨by rw[HE.out];rfl,HB3.out⟩
 ·have HE:Hid (Qa5 m h a b=q):=Lh (by unfold Qa5;rw[HQ.out,if_pos hq0]);have hqb:(q != 0)=true:=(by simpa using hq0);clear hq0;go_enter Tryz.func105,Tryz.ntmps105;go_upto_region 1 with(fail);have HWB:=Lh hwb;clear hwb;go_wp2_with (first|(go_at_call 125;refine HP.out.mono ?_;rintro e w2 ⟨v,rfl,-,-,hb2⟩;have HB2:=Lh (HBA.out.trans (hb2.mono HBA.out.size));clear hb2)|fail);go_ret;exact⟨by rw[HE.out];rfl,HB2.out⟩
def Qa6 (l:List SectP)(e:Int):Int:=if l.findIdx (fun s=>decide (s.entry=e))<l.length then(l.findIdx (fun s=>decide (s.entry=e)):Int) else -1
theorem QdD {l:List SectP}{e:Int}{k:Nat}(hk:k<l.length)(h:l[k].entry=e)(hn:∀i (hi:i<k),(l[i]'(by omega)).entry≠e):Qa6 l e=(k:Int):=by
 have:l.findIdx (fun s=>decide (s.entry=e))=k:=(List.findIdx_eq hk).2 ⟨by simp[h],fun i hi=>by simpa using hn i hi⟩;unfold Qa6;rw[this,if_pos hk]
theorem findP_none {l:List SectP}{e:Int}(hn:∀i (hi:i<l.length),l[i].entry≠e):Qa6 l e= -1:=by
 unfold Qa6;rw[if_neg];rw[List.findIdx_lt_length];rintro⟨x,hx,hp⟩;obtain⟨i,hi,rfl⟩:=List.mem_iff_getElem.1 hx;exact hn i hi (by simpa using hp)
theorem QbM (l:List SectP)(e:Int):Qa6 l e= -1∨∃(k:Nat) (hk:k<l.length),Qa6 l e=(k:Int)∧l[k].entry=e:=by
 unfold Qa6;by_cases h:l.findIdx (fun s=>decide (s.entry=e))<l.length
 ·rw[if_pos h];refine .inr ⟨_,h,rfl,?_⟩;have:=List.findIdx_getElem (w:=h);simpa using this
 ·rw[if_neg h];exact .inl rfl
theorem QbO {w:World}{S:Nat→Prop}{A:Option Addr}{c:Nat}{l:List SectP}(h:Sl w S A c l){k:Nat}(hk:k<l.length):
 ∃b o Ag cg An cn,A=some ⟨b,o,none⟩∧S b∧b<w.heap.size∧w.cell? ⟨b,o+k*4,none⟩=some (.int .i64 l[k].entry)∧w.cell? ⟨b,o+k*4+1,none⟩=some (.bool l[k].frozen)∧ w.cell? ⟨b,o+k*4+2,none⟩=some (.slice Ag l[k].vers.length cg)∧w.cell? ⟨b,o+k*4+3,none⟩=some (.slice An l[k].texts.length cn)∧Sl w S Ag cg l[k].vers∧Sl w S An cn l[k].texts∧I64 l[k].entry:=by
 obtain⟨b,o,es,rfl,hb,hlt,⟨va,vb,rfl,hI,⟨Ag,cg,e1,hg,_⟩,⟨An,cn,e2,hn,_⟩⟩,hc⟩:=h.at_ hk;cases e1;cases e2;exact⟨b,o,Ag,cg,An,cn,rfl,hb,hlt,hc 0 _ rfl,hc 1 _ rfl,hc 2 _ rfl,hc 3 _ rfl,hg,hn,hI⟩
theorem find1_any (e1 e:Int)(f:Bool)(va vb:Value)(Eb:Nat)(w:World)(hc:w.cell? ⟨Eb,0,none⟩=some (.int .i64 e))(hl:Eb<w.heap.size):
 Calls Tryz.prog 127 #[.agg #[.int .i64 e1,.bool f,va,vb],.pointer (some ⟨Eb,0,none⟩)] w fun x w'=>x=.returned (.bool (decide (e1=e)))∧Below w.heap.size w w':=by
 obtain⟨wb,hwb⟩:∃wb,w.alloc (.cells #[.int .i64 e1,.bool f,va,vb] 74)=wb:=⟨_,rfl⟩;have hba:Below w.heap.size w wb:=by rw[←hwb];exact bR.alloc nL _
 have c0:wb.cell? ⟨w.heap.size,0,none⟩=some (.int .i64 e1):=by rw[←hwb];exact cell_of_row _ _ 0 _ _ _ (heap_alloc_new w _)
 have c1:wb.cell? ⟨Eb,0,none⟩=some (.int .i64 e):=(hba.cell (p:=⟨Eb,0,none⟩) hl).trans hc;have HB:=Lh hba;clear hba;go_enter Tryz.func127,Tryz.ntmps127;go_wp2_with fail;go_ret;refine⟨QaV ?_,HB.out⟩;rw[Bool.eq_iff_iff,beq_iff_eq,decide_eq_true_iff]
set_option maxRecDepth 100000 in
theorem indexS_any (A:Option Addr)(c:Nat)(l:List SectP)(Eb:Nat)(e:Int)(w:World)(hs:Sl w (fun b=>b<w.heap.size) A c l)(hc:w.cell? ⟨Eb,0,none⟩=some (.int .i64 e))(hl:Eb<w.heap.size)(h63:l.length≤1073741824):
 Calls Tryz.prog 126 #[.slice A l.length c,.func (.func 127) #[] #[.pointer (some ⟨Eb,0,none⟩)]] w fun x w'=>x=.returned (.int .i64 (Qa6 l e))∧Below w.heap.size w w':=by
 have HS:=Lh hs
 have HC:Hid (∀W e1 f va vb,Below w.heap.size w W→Calls Tryz.prog 127 #[.agg #[.int .i64 e1,.bool f,va,vb],.pointer (some ⟨Eb,0,none⟩)] W fun x w'=>x=.returned (.bool (decide (e1=e)))∧Below W.heap.size W w'):=
  Lh (fun W e1 f va vb hW=>find1_any e1 e f va vb Eb W ((hW.cell (p:=⟨Eb,0,none⟩) hl).trans hc) (by have:=hW.size;omega))
 clear hs hc hl;go_enter Tryz.func126,Tryz.ntmps126;go_wp2_with fail;go_loopw [5,8] (fun _ i wr=>∃k:Nat,k≤l.length∧i=.int .i64 k∧Hid (∀i (hi:i<l.length),i<k→l[i].entry≠e)∧Hid (Below w.heap.size w wr)) (fun _ i _=>l.length-(intOf i).toNat);(case atStart=>exact⟨0,Nat.zero_le _,rfl,Lh (fun i hi h=>absurd h (Nat.not_lt_zero _)),Lh bR⟩);case round=>
  obtain⟨k,hk,rfl,HN,HB⟩:=hrel;by_cases hlt:k<l.length
  ·obtain⟨b,o,Ag,cg,An,cn,rfl,_,hbl,k0,k1,k2,k3,-,-,-⟩:=QbO (HS.out.to HB.out) hlt;have hkl:(k:Int)<(l.length:Int):=(by omega);have hk0:(0:Int)≤(k:Int):=(by omega);have hlc:l.length≤c:=HS.out.1;have HX:Hid (∃x,l[k]=x):=Lh ⟨_,rfl⟩;obtain⟨x,hx⟩:=HX.out;have HXE:=Lh hx;rw[hx] at k0 k1 k2 k3;clear hx HX;go_wp2_with fail;refine(HC.out _ _ _ _ _ HB.out).mono ?_;rintro e w' ⟨rfl,hb2⟩;have HB2:=Lh (HB.out.trans (hb2.mono HB.out.size));clear hb2 k0 k1 k2 k3;by_cases hq:x.entry=e
   ·have HF:Hid (Qa6 l e=(k:Int)):=Lh (QdD hlt (by rw[HXE.out];exact hq) (fun i hi=>HN.out i (by omega) hi));rw[decide_eq_true hq];clear hq;go_wp2_with fail;go_ret;exact⟨by rw[HF.out];rfl,HB2.out⟩
   ·rw[decide_eq_false hq]
    have HN2:Hid (∀i (hi:i<l.length),i<k+1→l[i].entry≠e):=Lh (fun i hi h=>by
     by_cases hik:i=k
     ·subst hik;rw[HXE.out];exact hq
     ·exact HN.out i hi (by omega))
    clear hq;go_wp2_with fail;go_roundw;(case rel=>exact⟨k+1,by omega,by go_num,HN2,HB2⟩);case measure=>simp[intOf];omega
  ·have HF:Hid (Qa6 l e= -1):=Lh (findP_none fun i hi=>HN.out i hi (by omega));go_wp2_with fail;go_ret;exact⟨by rw[HF.out];rfl,HB.out⟩
set_option maxRecDepth 100000 in
theorem Qdm (A:Option Addr)(c:Nat)(l:List SectP)(m h e:Int)(w:World)(hs:Sl w (fun b=>b<w.heap.size) A c l)(h63:l.length≤1073741824):
 Calls Tryz.prog 69 #[.agg #[.int .i64 m,.int .i64 h,.slice A l.length c],.int .i64 e] w fun x w'=>x=.returned (.int .i64 (Qa6 l e))∧Below w.heap.size w w':=by
 obtain⟨wb,hwb⟩:∃wb,(w.alloc (.cells #[.int .i64 m,.int .i64 h,.slice A l.length c] 25)).alloc (.cells #[.int .i64 e] 3)=wb:=⟨_,rfl⟩;have hba:Below w.heap.size w wb:=by rw[←hwb];exact(bR.alloc nL _).alloc (by simp) _
 have hx0:ABox wb w.heap.size 25 [.int .i64 m,.int .i64 h,.slice A l.length c]:=by rw[←hwb];exact(Below.heap_alloc _ _ _ (by simp)).trans (heap_alloc_new w _)
 have hx1:ABox wb (w.heap.size+1) 3 [.int .i64 e]:=by rw[←hwb];exact Qak (by simp)
 have HI:=Lh (indexS_any A c l (w.heap.size+1) e wb (hs.to hba) (hx1.cell 0 rfl) hx1.lt h63);have c2:=hx0.cell 2 rfl;have HB:=Lh hba;clear hs hba hx0 hx1;go_enter Tryz.func69,Tryz.ntmps69
 go_wp2_with (first|(go_at_call 126;refine HI.out.mono ?_;rintro x w2 ⟨rfl,hb2⟩;have HB2:=Lh (HB.out.trans (hb2.mono HB.out.size));clear hb2)|fail)
 go_ret;exact⟨rfl,HB2.out⟩
theorem word_infoB:(Tryz.prog.info? 66).map (fun i=>(i.zero,i.size,i.bytes))=some (some (.agg #[.string ⟨#[]⟩,.string ⟨#[]⟩,.int .i64 0,.int .i64 0]),Rep.size Word,48):=by kernel_rfl
theorem par_info:(Tryz.prog.info? 110).map (fun i=>(i.zero,i.size,i.bytes))=some (some (.slice none 0 0),1,24):=by kernel_rfl
theorem wclone_any (A:Option Addr)(c n:Nat)(l:List Word)(w:World)(hl:Sl w (fun b=>b<w.heap.size) A c l)(hn:l.length=n)(hsz:n≤1073741824):
 Calls Tryz.prog 82 #[.slice A n c] w fun e w'=>∃v,e=.returned v∧Own w' w.heap.size 66 v l∧Below w.heap.size w w':=by
 have hq:=fun w'=>Lib.run_eql_slice_nil (P:=Tryz.prog) w' 110 66 A n c 0 0 Tryz.underlying110
 cases A with
 |none=>
  have hl0:l=[]:=by
   by_cases h0:0<l.length
   ·obtain⟨b,o,e,_⟩:=hl.2.2 h0;cases e
   ·exact List.eq_nil_of_length_eq_zero (by omega)
  subst hl0;simp only[Option.isNone_none] at hq;go_enter Tryz.func82,Tryz.ntmps82;go_wp2_with fail;go_ret;exact⟨_,rfl,Own.nil _ _ _,Below.refl _ _⟩
 |some a=>
  simp only[Option.isNone_some] at hq;go_enter Tryz.func82,Tryz.ntmps82;go_wp2_with (at_builtin;refine QaH (α:=Word) _ rfl (.tmp 5) (.tmp 6) 110 rfl w.heap.size 66 (.agg #[.string ⟨#[]⟩,.string ⟨#[]⟩,.int .i64 0,.int .i64 0]) 48 Tryz.underlying110 word_infoB rfl (by decide) (.slice (some ⟨w.heap.size,0,none⟩) 0 0) [] rfl (Own.made w _ _ nL) (some a) c n l rfl hn (fun b=>b<w.heap.size) (hl.keep (Kept.all (bR.alloc nL _)) (by simp)) (by intro i (hi:i<w.heap.size) _ e;simp[Value.ownBlock] at e;omega) (by simp;omega) (by simp;omega) (by simp) ?_;intro v2 w2 hown2 hg2 _);go_ret;exact⟨_,rfl,hown2,Qa3 (bR.alloc nL _) (Own.made (α:=Word) w _ _ nL) (by simp) hg2⟩
theorem Own.upF {α:Type}[Rep α][Flat α]{w:World}{base B:Nat}{e:TypeId}{v:Value}{l:List α}(h:Own w base e v l)(hB:B≤base):OwnP w B e v l (fun b=>B≤b):=
 ⟨(h.conv (l.map (Av.mk:α→Av α (fun b=>B≤b))) (by rw[qM]) rfl (fun i h1 h2 es he=>by
   rw[List.getElem_map]
   exact Flat.flat (α:=α) he)).re hB,fun g hg=>Nat.le_trans hB (h.lt g hg).1⟩
abbrev Up (B:Nat):Nat→Prop:=fun b=>B≤b
def Qbp (l:List (List Word)):Prop:=l.length≤1048576∧∀p∈l,p.length≤1048576
set_option maxRecDepth 100000 in
theorem parts_any (A:Option Addr)(c:Nat)(l:List (List Word))(w:World)(hs:Sl w (fun b=>b<w.heap.size) A c l)(hsh:Qbp l):
 Calls Tryz.prog 128 #[.slice A l.length c] w fun e w'=>∃v,e=.returned v∧OwnP w' w.heap.size 110 v l (Up w.heap.size)∧Below w.heap.size w w':=by
 have HS:=Lh hs;have HSH:=Lh hsh;have h63:l.length≤1048576:=hsh.1;clear hs hsh;go_enter Tryz.func128,Tryz.ntmps128;go_wp2_with fail;go_loopw [3,8] (fun v3 i wr=>∃k:Nat,k≤l.length∧i=.int .i64 k∧Hid (OwnP wr w.heap.size 110 v3 (l.take k) (Up w.heap.size))∧Hid (Below w.heap.size w wr)) (fun _ i _=>l.length-(intOf i).toNat);(case atStart=>exact⟨0,Nat.zero_le _,rfl,Lh (OwnP.nil _ _ _ _),Lh bR⟩);case round=>
  obtain⟨k,hk,rfl,HO,HB⟩:=hrel;by_cases hlt:k<l.length
  ·obtain⟨b,o,A1,c1,rfl,_,hbl,k0,hp⟩:=Qbw (HS.out.to HB.out) hlt;have hkl:(k:Int)<(l.length:Int):=(by omega);have hk0:(0:Int)≤(k:Int):=(by omega);have hlc:l.length≤c:=HS.out.1;have HPL:=Lh (HSH.out.2 _ (List.getElem_mem hlt));have HTK:Hid (l.take (k+1)=l.take k++[l[k]]):=Lh (qT hlt);obtain⟨p,hpp⟩:∃p,l[k]=p:=⟨_,rfl⟩;rw[hpp] at k0 hp HPL HTK;have HP:=Lh hp;clear hpp hp;obtain⟨A3,c3,hv3,-,-⟩:=HO.out.len;have hol:(l.take k).length=k:=(by rw[qK];omega);rw[hol] at hv3;subst hv3
   go_wp2_with (first
    |(go_at_call 82;refine(wclone_any A1 c1 p.length p wr HP.out rfl (by have:=HPL.out;omega)).mono ?_;rintro e w2 ⟨v,rfl,ho,hb2⟩;have HU:=Lh (ho.upF (B:=wr.heap.size) nL);have HB2:=Lh hb2;clear ho hb2;obtain⟨A4,c4,rfl,-,-⟩:=HU.out.len;have HO2:Hid (OwnP (w2.alloc (.cells #[.slice A4 p.length c4] 110)) w.heap.size 110 (.slice A3 k c3) (l.take k) (Up w.heap.size)):=Lh ((HO.out.below HB2.out).below (bR.alloc nL _));have HR2:Hid (Rep.R (w2.alloc (.cells #[.slice A4 p.length c4] 110)) (fun b=>some b≠(Value.slice A3 k c3).ownBlock) [.slice A4 p.length c4] (⟨p⟩:Av (List Word) (Up w.heap.size))):=Lh (Rep.keep (α:=List Word) (HU.out.rep (by have:=HPL.out;omega) (fun i hi hil=>⟨fun e=>by have:=(HO.out.lt i e.symm).2;omega,Nat.le_trans HB.out.size hi⟩)) (Kept.all (bR.alloc nL _)));have HBZ:Hid (Below w.heap.size w (w2.alloc (.cells #[.slice A4 p.length c4] 110))):=Lh ((HB.out.trans (HB2.out.mono HB.out.size)).trans (bR.alloc (by have:=HB.out.size;have:=HB2.out.size;omega) _)))
    |(at_builtin;refine Qau _ (α:=Av (List Word) (Up w.heap.size)) rfl (.tmp 12) (.tmp 15) 34 rfl w.heap.size 110 (.slice none 0 0) 24 Tryz.underlying34 par_info rfl (show 0<1 by decide) (.slice A3 k c3) ((l.take k).map Av.mk) rfl HO2.out.own w2.heap.size #[.slice A4 p.length c4] ⟨p⟩ (0,0) _ rfl (heap_alloc_new w2 _) HR2.out (by rw[qM,hol];omega) (by rw[qM,hol];omega) HBZ.out.size _ rfl ?_;rw[qM,hol];intro g cap w3 ho3 hg3 hat3 hlt3;have HO3:=Lh (HO2.out.pushed ho3 (fun q hq=>by cases hq;exact hat3) HBZ.out.size);have HB3:Hid (Below w.heap.size w w3):=Lh (HBZ.out.grown hg3 HBZ.out.size (fun q hq=>(HO2.out.lt q hq).1));clear ho3 hg3 hat3 hlt3 HO2 HR2 HBZ)
    |fail)
   go_roundw;(case rel=>exact⟨k+1,by omega,by go_num,Lh (by rw[HTK.out];exact HO3.out),HB3⟩);case measure=>simp[intOf];omega
  ·have HF:Hid (l.take k=l):=Lh (List.take_of_length_le (by omega));go_wp2_with fail;go_ret;exact⟨_,rfl,by have:=HO.out;rwa [HF.out] at this,HB.out⟩
theorem Qb2 {P:Program}{fn:Func}{p:Tmp}{ty:TypeId}(h:fn.results=#[.cell p ty])(tmps:Array Value)(w:World)(g:Nat)(t:TypeId)(cs:Array Value)(fr:Nat × Nat)(d:TypeDesc) (hp:tmps.getD p undef=.pointer (some ⟨g,0,none⟩)) (hg:w.heap[g]? =some (.cells cs t fr)) (hu:P.underlying ty=some d) (hd:(match d with|.struct _|.array _ _=>true|_=>false)=true) (hi:(P.info? ty).map (·.size)=some cs.size):
 (results fn tmps).run P w=.ok (.agg cs) w:=by
 have hp':tmps[p]?.getD undef=.pointer (some ⟨g,0,none⟩):=by simpa using hp
 simp[results,h,hp',asAddr,run_loadVar_row w g t ty cs fr d hg hu hd hi]
def SP.rp {α:Type}[Rep α](B:Nat)(l:List α):SP:=⟨fun v w=>(∃A c,v=.slice A l.length c)∧Rep.R w (Up B) [v] l,fun _ _ _ h hb=>⟨h.1,Rep.keep h.2 (Kept.all hb)⟩⟩
set_option maxRecDepth 100000 in
theorem QcK (A B:Option Addr)(c d:Nat)(a b:List (List Word))(w:World)(ha:Sl w (fun b=>b<w.heap.size) A c a)(hb:Sl w (fun b=>b<w.heap.size) B d b)(hsa:Qbp a)(hsb:Qbp b):
 Calls Tryz.prog 71 #[.agg #[.slice A a.length c,.slice B b.length d]] w fun e w'=>∃va vb,e=.returned (.agg #[va,vb])∧Rep.R w' (Up w.heap.size) [va,vb] (⟨a,b⟩:TextP)∧Below w.heap.size w w':=by
 obtain⟨wb,hwb⟩:∃wb,(w.alloc (.cells #[.slice A a.length c,.slice B b.length d] 36)).alloc (.cells #[.slice none 0 0,.slice none 0 0] 36)=wb:=⟨_,rfl⟩;have hba:Below w.heap.size w wb:=by rw[←hwb];exact(bR.alloc nL _).alloc (by simp) _
 have hsz:wb.heap.size=w.heap.size+2:=by rw[←hwb];simp
 have hx0:ABox wb w.heap.size 36 [.slice A a.length c,.slice B b.length d]:=by rw[←hwb];exact(Below.heap_alloc _ _ _ (by simp)).trans (heap_alloc_new w _)
 have HX1:Hid (ABox wb (w.heap.size+1) 36 [.slice none 0 0,.slice none 0 0]):=Lh (by rw[←hwb];exact Qak (by simp));have HX0:=Lh hx0;have HSA:=Lh (ha.to hba);have HSB:=Lh (hb.to hba);have HA:=Lh hsa;have HB:=Lh hsb;have HBA:=Lh hba;have HSZ:=Lh hsz;clear hba hx0 ha hb hsa hsb hsz;go_enter Tryz.func71,Tryz.ntmps71;go_upto_region 1 with(fail);(try rw[hwb]);have HWB:=Lh hwb;clear hwb;refine Qaf [2,5] (fun i=>if i=2 then SP.rp wb.heap.size a else if i=5 then SP.rp wb.heap.size b else SP.any) 7 (by kernel_rfl) (by kernel_rfl) ?_;intro T _ g hg hgm;have q0:∀d,(g d).cell? ⟨w.heap.size,0,none⟩=some (.slice A a.length c):=fun d=>(HX0.out.to (hg d)).cell 0 rfl
 have q1:∀D,(g D).cell? ⟨w.heap.size,1,none⟩=some (.slice B b.length d):=fun D=>(HX0.out.to (hg D)).cell 1 rfl
 (repeat(refine Qac (by rfl) fun Kq hq=>?_;go_big_quiet_step (fail);refine wpQuiet_nil (hq _ ?_);clear hq Kq));refine Qah (by rfl) (by rfl) (fun d hG K Q hK=>?_) (fun v2 d hG hp Kr hr=>?_)
 ·go_simp;go_at_call 128;refine(parts_any A c a (g d) (HSA.out.to (hg _)) HA.out).mono ?_;rintro e W1 ⟨v,rfl,ho,hb1⟩;go_simp;exact hK _ _ hb1 (show(∃A c,v=.slice A a.length c)∧Rep.R W1 (Up wb.heap.size) [v] a from⟨by obtain⟨A9,c9,e9,-⟩:=ho.len;exact⟨A9,c9,e9⟩,ho.rep (by have:=HA.out.1;omega) (fun i hi _=>Nat.le_trans (hg _).size hi)⟩)
 obtain⟨⟨Av2,cv2,rfl⟩,-⟩:=(show(∃A c,v2=.slice A a.length c)∧Rep.R (g d) (Up wb.heap.size) [v2] a from hp);(try clear hp);clear hG;go_frame;refine hr _ ?_;clear hr Kr;(repeat(refine Qac (by rfl) fun Kq hq=>?_;go_big_quiet_step (fail);refine wpQuiet_nil (hq _ ?_);clear hq Kq));refine Qah (by rfl) (by rfl) (fun d hG K Q hK=>?_) (fun v5 d hG hp Kr hr=>?_)
 ·go_simp;go_at_call 128;refine(parts_any B _ b (g d) (HSB.out.to (hg _)) HB.out).mono ?_;rintro e W1 ⟨v,rfl,ho,hb1⟩;go_simp;exact hK _ _ hb1 (show(∃A c,v=.slice A b.length c)∧Rep.R W1 (Up wb.heap.size) [v] b from⟨by obtain⟨A9,c9,e9,-⟩:=ho.len;exact⟨A9,c9,e9⟩,ho.rep (by have:=HB.out.1;omega) (fun i hi _=>Nat.le_trans (hg _).size hi)⟩)
 obtain⟨⟨Av5,cv5,rfl⟩,-⟩:=(show(∃A c,v5=.slice A b.length c)∧Rep.R (g d) (Up wb.heap.size) [v5] b from hp);(try clear hp);clear hG;go_frame;refine hr _ ?_;clear hr Kr;(repeat(refine Qac (by rfl) fun Kq hq=>?_;go_big_quiet_step (fail);refine wpQuiet_nil (hq _ ?_);clear hq Kq));refine QaP 1 (by rfl) (by rfl) (fun d hG=>?_);have HR2:Hid (Rep.R (g d) (Up wb.heap.size) [.slice Av2 a.length cv2] a):=Lh (show(∃A c,_=Value.slice A a.length c)∧Rep.R (g d) (Up wb.heap.size) [.slice Av2 a.length cv2] a from hG 2).2;have HR5:Hid (Rep.R (g d) (Up wb.heap.size) [.slice Av5 b.length cv5] b):=Lh (show(∃A c,_=Value.slice A b.length c)∧Rep.R (g d) (Up wb.heap.size) [.slice Av5 b.length cv5] b from hG 5).2;have HXd:=Lh (HX1.out.to (hg d));have HBd:Hid (Below w.heap.size w (g d)):=Lh (HBA.out.trans ((hg d).mono HBA.out.size));clear q0 q1 hG hg hgm HX0 HX1;generalize g d=wx at*;clear g;have k0:=HXd.out.cell 0 rfl;have k1:=HXd.out.cell 1 rfl;have f0:=HXd.out.fz 0;have f1:=HXd.out.fz 1;have k2:=(HXd.out.set 0 (.slice Av2 a.length cv2)).cell 1 rfl;have f2:=(HXd.out.set 0 (.slice Av2 a.length cv2)).fz 1;refine Qao (i:=7) (oi:=_) rfl (by kernel_rfl) (by rfl) (fun K hK=>?_);go_simp;refine hK _ _ ?_;clear hK K;(try go_frame);refine wpAny_done (by kernel_rfl) ?_ _;unfold Exit.then;have HX2:=Lh ((HXd.out.set 0 (.slice Av2 a.length cv2)).set 1 (.slice Av5 b.length cv5));have HB2:Hid (Below w.heap.size w ((wx.setCell ⟨w.heap.size+1,0,none⟩ (.slice Av2 a.length cv2)).setCell ⟨w.heap.size+1,1,none⟩ (.slice Av5 b.length cv5))):=Lh ((HBd.out.setCell (p:=⟨w.heap.size+1,0,none⟩) (by show w.heap.size≤w.heap.size+1;omega) _).setCell (p:=⟨w.heap.size+1,1,none⟩) (by show w.heap.size≤w.heap.size+1;omega) _)
 have HK:Hid (Kept (Up wb.heap.size) wx ((wx.setCell ⟨w.heap.size+1,0,none⟩ (.slice Av2 a.length cv2)).setCell ⟨w.heap.size+1,1,none⟩ (.slice Av5 b.length cv5))):=Lh (fun i hi _=>by
  have h1:wb.heap.size≤i:=hi
  have h2:=HSZ.out
  exact(Qaa _ _ 1 _ (by omega)).trans (Qaa wx _ 0 _ (by omega)))
 clear k0 k1 f0 f1 k2 f2;go_wp2_with fail
 exact bodyPost_ret (v:=.agg #[.slice Av2 a.length cv2,.slice Av5 b.length cv5]) (Qb2 Tryz.results71 _ _ (w.heap.size+1) _ #[.slice Av2 a.length cv2,.slice Av5 b.length cv5] (0,0) _ rfl HX2.out Tryz.underlying36 rfl (by kernel_rfl)) rfl ⟨_,_,rfl,⟨_,_,rfl,Rep.mono (Rep.keep HR2.out HK.out) (fun i hi _=>by have h1:wb.heap.size≤i:=hi;have:=HSZ.out;show w.heap.size≤i;omega),Rep.mono (Rep.keep HR5.out HK.out) (fun i hi _=>by have h1:wb.heap.size≤i:=hi;have:=HSZ.out;show w.heap.size≤i;omega)⟩,HB2.out⟩
structure SC where
 e:Int
 f:Bool
 v1:Value
 v2:Value
instance:Rep SC where
 size:=4
 R _ _ cs x:=cs=[.int .i64 x.e,.bool x.f,x.v1,x.v2]∧x.v1.oneCell'=true∧x.v2.oneCell'=true
 len:=by rintro w S cs s ⟨rfl,_⟩;rfl
 one:=by
  rintro w S cs s ⟨rfl,h1,h2⟩ u hu;simp at hu;rcases hu with rfl|rfl|rfl|rfl
  ·rfl
  ·rfl
  ·exact h1
  ·exact h2
 keep:=by rintro w w' S cs s h _;exact h
 mono:=by rintro w S S' cs s h _;exact h
theorem Own.sc {w:World}{base:Nat}{e:TypeId}{v:Value}{P:Nat→Prop}{l:List SectP}(h:Own w base e v (l.map (Av.mk:SectP→Av SectP P))):
 ∃rows:List SC,rows.length=l.length∧Own w base e v rows∧∀i (h1:i<rows.length) (h2:i<l.length),rows[i].e=l[i].entry∧rows[i].f=l[i].frozen∧I64 l[i].entry∧Rep.R w P [rows[i].v1] l[i].vers∧Rep.R w P [rows[i].v2] l[i].texts:=by
 obtain⟨xs,hx,ho,hr⟩:=id h;rw[qM] at hx
 have key:∀n,n≤l.length→∃rows:List SC,rows.length=n∧∀i (h1:i<rows.length) (h2:i<l.length),(rows[i].e=l[i].entry∧rows[i].f=l[i].frozen∧I64 l[i].entry∧Rep.R w P [rows[i].v1] l[i].vers∧Rep.R w P [rows[i].v2] l[i].texts)∧Rep.R w (fun b=>some b≠v.ownBlock) ((xs.drop (i*4)).take 4) rows[i]:=by
  intro n;induction n with
  |zero=>exact fun _=>⟨[],rfl,fun i h=>absurd h (Nat.not_lt_zero _)⟩
  |succ n ih=>
   intro hn;obtain⟨rows,h1,h2⟩:=ih (by omega);have hrn:=hr n (by rw[qM];exact hn);rw[List.getElem_map] at hrn;have hone:=Rep.one hrn;obtain⟨va,vb,e1,hI,q1,q2⟩:=hrn;refine⟨rows++[⟨l[n].entry,l[n].frozen,va,vb⟩],by rw[qA,h1];rfl,fun i h3 h4=>?_⟩;by_cases hi:i<rows.length
   ·rw[List.getElem_append_left hi];exact h2 i hi h4
   ·obtain rfl:i=n:=by rw[qA,List.length_singleton] at h3;omega
    have e2:(rows++[(⟨l[i].entry,l[i].frozen,va,vb⟩:SC)])[i]=⟨l[i].entry,l[i].frozen,va,vb⟩:=(by rw[List.getElem_append_right (by omega)];simp[h1]);rw[e2];refine⟨⟨rfl,rfl,hI,Rep.mono q1 (fun i hi _=>hi.2),Rep.mono q2 (fun i hi _=>hi.2)⟩,e1,?_,?_⟩
    ·exact hone va (by rw[e1];simp)
    ·exact hone vb (by rw[e1];simp)
 obtain⟨rows,h1,h2⟩:=key l.length nL;exact⟨rows,h1,⟨xs,by rw[h1];exact hx,ho,fun i hi=>(h2 i hi (by omega)).2⟩,fun i hi1 hi2=>(h2 i hi1 hi2).1⟩
structure CS (W:World)(g:Nat)(rows:List SC)(l:List SectP)(k:Nat):Prop where
 own:Own W g 74 (.slice (some ⟨g,0,none⟩) l.length l.length) rows
 len:rows.length=l.length
 f:∀i (h1:i<rows.length) (h2:i<l.length),rows[i].e=l[i].entry∧rows[i].f=l[i].frozen∧I64 l[i].entry∧(i<k→Rep.R W (fun b=>g<b) [rows[i].v1] l[i].vers∧Rep.R W (fun b=>g<b) [rows[i].v2] l[i].texts)∧ (k≤i→Rep.R W (fun b=>b<g) [rows[i].v1] l[i].vers∧Rep.R W (fun b=>b<g) [rows[i].v2] l[i].texts)
section
variable {W W':World} {g:Nat} {rows:List SC} {l:List SectP} {k:Nat}
theorem CS.to (h:CS W g rows l k)(hb:Below W.heap.size W W'):CS W' g rows l k:=
 ⟨h.own.below hb,h.len,fun i h1 h2=>⟨(h.f i h1 h2).1,(h.f i h1 h2).2.1,(h.f i h1 h2).2.2.1,fun hk=>⟨Rep.keep ((h.f i h1 h2).2.2.2.1 hk).1 (Kept.all hb),Rep.keep ((h.f i h1 h2).2.2.2.1 hk).2 (Kept.all hb)⟩,fun hk=>⟨Rep.keep ((h.f i h1 h2).2.2.2.2 hk).1 (Kept.all hb),Rep.keep ((h.f i h1 h2).2.2.2.2 hk).2 (Kept.all hb)⟩⟩⟩
theorem CS.row (h:CS W g rows l k){i:Nat}(_hi:i<l.length)(hr:i<rows.length):
 W.cell? ⟨g,i*4,none⟩=some (.int .i64 rows[i].e)∧W.cell? ⟨g,i*4+1,none⟩=some (.bool rows[i].f)∧W.cell? ⟨g,i*4+2,none⟩=some rows[i].v1∧W.cell? ⟨g,i*4+3,none⟩=some rows[i].v2∧∀o,W.frozen? ⟨g,o,none⟩=false:=by
 obtain⟨g',cap,es,e1,-,-,-,hr,hc,hf⟩:=h.own.at_ (k:=i) hr;injection e1 with q1 _ _
 injection q1 with q1
 injection q1 with q1 _ _
 subst q1;obtain⟨rfl,-,-⟩:=hr;exact⟨hc 0 _ rfl,hc 1 _ rfl,hc 2 _ rfl,hc 3 _ rfl,hf⟩
theorem CS.done (h:CS W g rows l l.length):OwnP W g 74 (.slice (some ⟨g,0,none⟩) l.length l.length) l (Up g):=
 ⟨h.own.conv (α:=Av SectP (Up g)) (l.map Av.mk) (by rw[qM,h.len]) rfl (fun i h1 h2 es he=>by
  have h3:i<l.length:=(by rw[←h.len];exact h1)
  obtain⟨rfl,-,-⟩:=he
  obtain⟨e1,e2,hI,e3,-⟩:=h.f i h1 h3
  obtain⟨e4,e5⟩:=e3 h3
  rw[List.getElem_map,e1,e2]
  refine⟨_,_,rfl,hI,Rep.mono e4 (fun b hb _=>⟨?_,Nat.le_of_lt hb⟩),Rep.mono e5 (fun b hb _=>⟨?_,Nat.le_of_lt hb⟩)⟩
  ·simp[Value.ownBlock];have:g<b:=hb;omega
  ·simp[Value.ownBlock];have:g<b:=hb;omega),fun q hq=>by cases hq;exact Nat.le_refl _⟩
end
theorem Qcn {w:World}{S:Nat→Prop}{A:Option Addr}{c:Nat}{l:List TextP}(h:Sl w S A c l){k:Nat}(hk:k<l.length):
 ∃b o Aa ca Ab cb,A=some ⟨b,o,none⟩∧S b∧b<w.heap.size∧w.cell? ⟨b,o+k*2,none⟩=some (.slice Aa l[k].a.length ca)∧w.cell? ⟨b,o+k*2+1,none⟩=some (.slice Ab l[k].b.length cb)∧Sl w S Aa ca l[k].a∧Sl w S Ab cb l[k].b:=by
 obtain⟨b,o,es,rfl,hb,hlt,⟨va,vb,rfl,⟨Ag,cg,e1,hg,_⟩,⟨An,cn,e2,hn,_⟩⟩,hc⟩:=h.at_ hk;cases e1;cases e2;exact⟨b,o,Ag,cg,An,cn,rfl,hb,hlt,hc 0 _ rfl,hc 1 _ rfl,hg,hn⟩
def ShortX (s:SectP):Prop:=s.vers.length≤1048576∧s.texts.length≤1048576∧∀t∈s.texts,Qbp t.a∧Qbp t.b
def Qbe (l:List SectP):Prop:=l.length≤1048576∧∀s∈l,ShortX s
theorem QbV:(Tryz.prog.info? 74).map (fun i=>(i.zero,i.size,i.bytes))=some (some (.agg #[.int .i64 0,.bool false,.slice none 0 0,.slice none 0 0]),4,64):=by kernel_rfl
theorem QdX:(Tryz.prog.info? 36).map (fun i=>(i.zero,i.size,i.bytes))=some (some (.agg #[.slice none 0 0,.slice none 0 0]),2,48):=by kernel_rfl
theorem texts_set (l:List TextP)(P:Nat→Prop){k:Nat}(hk:k<l.length):((l.take k++List.replicate (l.length-k) (⟨[],[]⟩:TextP)).map (Av.mk:TextP→Av TextP P)).set k ⟨l[k]⟩=((l.take (k+1)++List.replicate (l.length-(k+1)) (⟨[],[]⟩:TextP)).map (Av.mk:TextP→Av TextP P)):=by
 have hl:(l.take k).length=k:=by rw[qK];omega
 have e:l.length-k=(l.length-(k+1))+1:=by omega
 rw[←List.map_set,List.set_append_right _ _ (by omega),hl,Nat.sub_self,e,List.replicate_succ,sZ0,qT hk,List.append_assoc];rfl
section
variable {P:Program} {ops:Array Oper} {Q:Exit→Act→World→Prop} {md:Region.Mode} {S:World→Prop} {hd:Nat→Bool}
theorem wpAnyF_first {i:Nat}{oi:Oper}{v:Value}(hi:ops[i]? =some oi)(hhd:hd i=false)(hsel:∀(j:Nat) (o:Oper) cs b,ops[j]? =some o→o.op≠.select cs b) (hQ:∀c a w,Q (.panic c) (a.put oi.dst v) w→Q (.panic c) a w):
 ∀(fuel:Nat) (listed:Array Bool) (a:Act) (w:World),(∀j oj,ops[j]? =some oj→j≠i→listed.getD j true=false→(∀e∈oj.after,Region.binds md e=true→e.on≠i)→oi.apart ops oj=true)→ i∈Region.ready md ops listed→YieldsIf P ops (fun _=>True) oi v a→ wpAnyD P md ops Q S hd fuel (listed.setIfInBounds i true) (a.put oi.dst v) w→wpAnyD P md ops Q S hd (fuel+1) listed a w:=by
 intro fuel;induction fuel with
 |zero=>
  intro listed a w _ hr hy H;refine⟨fun h=>(by rw[h] at hr;cases hr),fun j hj=>?_⟩;by_cases hji:j=i
  ·subst hji;exact hy.wpOp hi trivial ⟨fun h=>(by rw[hhd] at h;cases h),H⟩
  ·have:=ready_mono hj hji;rw[H.1] at this;cases this
 |succ fuel ih=>
  intro listed a w hfree hr hy H;refine⟨fun h=>(by rw[h] at hr;cases hr),fun j hj=>?_⟩;by_cases hji:j=i
  ·subst hji;exact hy.wpOp hi trivial ⟨fun h=>(by rw[hhd] at h;cases h),H⟩
  ·have h1:=H.2 j (ready_mono hj hji);obtain⟨hjun,oj,hoj,hall⟩:=mem_ready.1 hj
   have hnot:∀e∈oj.after,Region.binds md e=true→e.on≠i:=fun e he hb heq=>by
    have h1:=hall e he hb;have h0:=(mem_ready.1 hr).1;rw[heq] at h1;rcases Nat.lt_or_ge i listed.size with h'|h'
    ·simp[h'] at h0 h1;rw[h0] at h1;cases h1
    ·simp[Array.getElem?_eq_none h'] at h1
   have h2:=wpOp_putIf hoj (hfree j oj hoj hji hjun hnot) (fun cs b=>hsel i oi cs b hi) (fun cs b=>hsel j oj cs b hoj) hQ hy h1;have hfree':∀k ok,ops[k]? =some ok→k≠i→(listed.setIfInBounds j true).getD k true=false→ (∀e∈ok.after,Region.binds md e=true→e.on≠i)→oi.apart ops ok=true:=fun k ok hk hki hun hno=>by
    refine hfree k ok hk hki ?_ hno;by_cases hjk:j=k
    ·subst hjk;exact hjun
    ·rw[Go.getD_set_ne true hjk] at hun;exact hun
   refine wpOp_mono (fun a' w' h3=>⟨h3.2.1,ih (listed.setIfInBounds j true) a' w' hfree' (ready_mono hr (Ne.symm hji)) h3.1 ?_⟩) h2;rw[Array.setIfInBounds_comm _ _ hji];exact h3.2.2
theorem wpAnyF_take {i:Nat}{oi:Oper}{v:Value}{fuel:Nat}{listed:Array Bool}{a:Act}{w:World}(hi:ops[i]? =some oi)(hhd:hd i=false) (hs:Region.noSelect ops=true) (hf:Region.free md ops listed i=true) (hr:(Region.ready md ops listed).contains i=true) (hQ:∀c a w,Q (.panic c) (a.put oi.dst v) w→Q (.panic c) a w) (hw:Region.wanted oi (yielded ops a.tmps)=true) (hy:∀w,(execOp a.eval oi).run P w=.ok (.value v) w) (h:wpAnyD P md ops Q S hd fuel (listed.setIfInBounds i true) (a.put oi.dst v) w):wpAnyD P md ops Q S hd (fuel+1) listed a w:=
 wpAnyF_first hi hhd (Region.noSelect_spec hs) hQ fuel listed a w (Region.free_spec hi hf) (by simpa using hr) (Or.inl ⟨hw,fun w _=>hy w⟩) h
theorem tF (i:Nat)(oi:Oper)(v:Value){fuel:Nat}{listed:Array Bool}{a:Act}{w:World}(hi:ops[i]? =some oi)(hy:∀w,(execOp a.eval oi).run P w=.ok (.value v) w) (h:wpAnyD P md ops Q S hd fuel (listed.setIfInBounds i true) (a.put oi.dst v) w) (hb:(!hd i&&Region.noSelect ops&&Region.free md ops listed i&&(Region.ready md ops listed).contains i)=true:=by kernel_rfl) (hw:Region.wanted oi (yielded ops a.tmps)=true:=by rfl) (hQ:∀c a w,Q (.panic c) (a.put oi.dst v) w→Q (.panic c) a w:=by first|exact fun _ _ _ h=>h|exact fun _ _ _ h=>nomatch h.1):wpAnyD P md ops Q S hd (fuel+1) listed a w:=by
 simp only[Bool.and_eq_true,Bool.not_eq_true'] at hb;exact wpAnyF_take hi hb.1.1.1 hb.1.1.2 hb.1.2 hb.2 hQ hw hy h
end
abbrev Off (g:Nat)(v:Value):Nat→Prop:=fun b=>g<b∧some b≠v.ownBlock
structure CX (W:World)(g:Nat)(rows:List SC)(l:List SectP)(k:Nat):Prop where
 cs:CS W g rows l k
 vo:∀i (h1:i<rows.length) (h2:i<l.length),i<k→Own W (g+1) 3 rows[i].v1 l[i].vers∧∃A,rows[i].v2=.slice A l[i].texts.length l[i].texts.length
 ap:∀i (h1:i<rows.length) (_h2:i<l.length),i<k→∀j (h3:j<rows.length) (h4:j<l.length),j<k→(i≠j→Rep.R W (Off g rows[i].v1) [rows[j].v1] l[j].vers)∧Rep.R W (Off g rows[i].v1) [rows[j].v2] l[j].texts
section
variable {W W':World} {g:Nat} {rows:List SC} {l:List SectP} {k:Nat}
theorem CX.to (h:CX W g rows l k)(hb:Below W.heap.size W W'):CX W' g rows l k:=
 ⟨h.cs.to hb,fun i h1 h2 hk=>⟨(h.vo i h1 h2 hk).1.below hb,(h.vo i h1 h2 hk).2⟩,fun i h1 h2 hi j h3 h4 hj=>⟨fun hij=>Rep.keep ((h.ap i h1 h2 hi j h3 h4 hj).1 hij) (Kept.all hb),Rep.keep (h.ap i h1 h2 hi j h3 h4 hj).2 (Kept.all hb)⟩⟩
theorem rows_set (h:Own W g 74 (.slice (some ⟨g,0,none⟩) l.length l.length) rows){k:Nat}(hkr:k<rows.length){v1 v2:Value}(o1:v1.oneCell'=true)(o2:v2.oneCell'=true):
 Own ((W.setCell ⟨g,k*4+2,none⟩ v1).setCell ⟨g,k*4+3,none⟩ v2) g 74 (.slice (some ⟨g,0,none⟩) l.length l.length) (rows.set k ⟨rows[k].e,rows[k].f,v1,v2⟩)∧W.grownBy ((W.setCell ⟨g,k*4+2,none⟩ v1).setCell ⟨g,k*4+3,none⟩ v2) (some g):=by
 obtain⟨a1,b1⟩:=h.setg k 2 hkr (show 2<4 by omega) v1 o1 {rows[k] with v1:=v1} (fun es he=>by
  obtain⟨rfl,q1,q2⟩:=he
  exact⟨rfl,o1,q2⟩) (o:=k*4+2) rfl
 have hkr2:k<(rows.set k {rows[k] with v1:=v1}).length:=by rw[List.length_set];exact hkr
 obtain⟨a2,b2⟩:=a1.setg k 3 hkr2 (show 3<4 by omega) v2 o2 ⟨rows[k].e,rows[k].f,v1,v2⟩ (fun es he=>by
  rw[List.getElem_set_self] at he
  obtain⟨rfl,q1,q2⟩:=he
  exact⟨rfl,o1,o2⟩) (o:=k*4+3) rfl
 rw[List.set_set] at a2;exact⟨a2,Qa9 b1 b2⟩
theorem CX.set {wo:World}(h0:CX wo g rows l k)(hb:Below wo.heap.size wo W)(hg:g<wo.heap.size)(hk:k<l.length){v1 v2:Value}(h1:Own W wo.heap.size 3 v1 l[k].vers)(_hn:l[k].vers.length<9223372036854775808)(h2:Rep.R W (fun b=>wo.heap.size≤b∧some b≠v1.ownBlock) [v2] l[k].texts) (h3:∃A,v2=.slice A l[k].texts.length l[k].texts.length):
 ∃rows',CX ((W.setCell ⟨g,k*4+2,none⟩ v1).setCell ⟨g,k*4+3,none⟩ v2) g rows' l (k+1):=by
 have h:=h0.to hb;have hkr:k<rows.length:=by rw[h.cs.len];exact hk
 have hv1:Rep.R W (fun b=>wo.heap.size≤b) [v1] l[k].vers:=by
  obtain⟨A,c,e,-⟩:=h1.form;subst e;exact QcA h1 rfl (fun b hb=>hb)
 have o1:=Rep.one hv1 v1 (by simp);have o2:=Rep.one h2 v2 (by simp);obtain⟨a2,b3⟩:=rows_set h.cs.own hkr o1 o2;have kp:Kept (fun b=>g<b) W ((W.setCell ⟨g,k*4+2,none⟩ v1).setCell ⟨g,k*4+3,none⟩ v2):=Kept.grown b3 (fun i hi e=>by have h:g<i:=hi;injection e with e;omega);have kp2:Kept (fun b=>b<g) W ((W.setCell ⟨g,k*4+2,none⟩ v1).setCell ⟨g,k*4+3,none⟩ v2):=Kept.grown b3 (fun i hi e=>by have h:i<g:=hi;injection e with e;omega);have kpo:∀{v:Value},Kept (Off g v) W ((W.setCell ⟨g,k*4+2,none⟩ v1).setCell ⟨g,k*4+3,none⟩ v2):=fun i hi hl=>kp i hi.1 hl
 have own1:Own ((W.setCell ⟨g,k*4+2,none⟩ v1).setCell ⟨g,k*4+3,none⟩ v2) (g+1) 3 v1 l[k].vers:=(h1.at_blocks (fun q hq e=>b3.block q hq (by intro e2;injection e2 with e2;have:=(h1.lt q e).1;omega))).re (by omega);refine⟨_,⟨a2,by rw[List.length_set];exact h.cs.len,fun i h3 h4=>?_⟩,fun i h5 h6 hi=>?_,fun i h5 h6 hi j h7 h8 hj=>?_⟩
 ·have h5:i<rows.length:=by rw[h.cs.len];exact h4
  have hf:=h.cs.f i h5 h4;by_cases hik:k=i
  ·subst hik;rw[List.getElem_set_self];exact⟨hf.1,hf.2.1,hf.2.2.1,fun _=>⟨Rep.keep (Rep.mono hv1 (fun b hb _=>by show g<b;have:wo.heap.size≤b:=hb;omega)) kp,Rep.keep (Rep.mono h2 (fun b hb _=>by show g<b;have:=hb.1;omega)) kp⟩,fun h=>absurd h (by omega)⟩
  ·rw[List.getElem_set_ne hik];exact⟨hf.1,hf.2.1,hf.2.2.1,fun hk2=>⟨Rep.keep (hf.2.2.2.1 (by omega)).1 kp,Rep.keep (hf.2.2.2.1 (by omega)).2 kp⟩,fun hk2=>⟨Rep.keep (hf.2.2.2.2 (by omega)).1 kp2,Rep.keep (hf.2.2.2.2 (by omega)).2 kp2⟩⟩
 ·have h7:i<rows.length:=by rw[h.cs.len];exact h6
  by_cases hik:k=i
  ·subst hik;rw[List.getElem_set_self];exact⟨own1,h3⟩
  ·rw[List.getElem_set_ne hik];obtain⟨q1,q2⟩:=h.vo i h7 h6 (by omega);exact⟨q1.at_blocks (fun q hq e=>b3.block q hq (by intro e2;injection e2 with e2;have:=(q1.lt q e).1;omega)),q2⟩
 ·have h9:i<rows.length:=by rw[h.cs.len];exact h6
  have h10:j<rows.length:=(by rw[h.cs.len];exact h8);by_cases hik:k=i
  ·subst hik;rw[List.getElem_set_self];by_cases hjk:k=j
   ·subst hjk;rw[List.getElem_set_self];exact⟨fun h=>absurd rfl h,Rep.keep (Rep.mono h2 (fun b hb _=>⟨by have:=hb.1;omega,hb.2⟩)) kpo⟩
   ·rw[List.getElem_set_ne hjk];have hold:=(h0.cs.f j h10 h8).2.2.2.1 (by omega);have far:∀b,(fun b=>g<b) b→b<wo.heap.size→Off g v1 b:=fun b hb hl=>⟨hb,fun e=>by have:=(h1.lt b e.symm).1;omega⟩
    exact⟨fun _=>Rep.keep (Rep.keep (Rep.mono hold.1 far) (Kept.all hb)) kpo,Rep.keep (Rep.keep (Rep.mono hold.2 far) (Kept.all hb)) kpo⟩
  ·rw[List.getElem_set_ne hik];by_cases hjk:k=j
   ·subst hjk;rw[List.getElem_set_self];have far:∀b,wo.heap.size≤b→Off g rows[i].v1 b:=fun b hb=>⟨by omega,fun e=>by have:=((h0.vo i h9 h6 (by omega)).1.lt b e.symm).2;omega⟩
    exact⟨fun _=>Rep.keep (Rep.mono hv1 (fun b hb _=>far b hb)) kpo,Rep.keep (Rep.mono h2 (fun b hb _=>far b hb.1)) kpo⟩
   ·rw[List.getElem_set_ne hjk];have q:=h.ap i h9 h6 (by omega) j h10 h8 (by omega);exact⟨fun hij=>Rep.keep (q.1 hij) kpo,Rep.keep q.2 kpo⟩
instance:Flat SC:=⟨fun h=>h⟩
theorem CX.kept (h:CX W g rows l l.length)(hk:Kept (fun b=>g≤b) W W'):CX W' g rows l l.length:=by
 have k2:Kept (fun b=>g<b) W W':=hk.mono (fun b hb=>Nat.le_of_lt hb);have k3:∀{v:Value},Kept (Off g v) W W':=hk.mono (fun b hb=>Nat.le_of_lt hb.1);refine⟨⟨h.cs.own.at_blocks (fun q hq e=>hk q (h.cs.own.lt q e).1 hq),h.cs.len,fun i h1 h2=>?_⟩,fun i h1 h2 hi=>?_,fun i h1 h2 hi j h3 h4 hj=>?_⟩
 ·obtain⟨a1,a2,a3,a4,-⟩:=h.cs.f i h1 h2;exact⟨a1,a2,a3,fun hi=>⟨Rep.keep (a4 hi).1 k2,Rep.keep (a4 hi).2 k2⟩,fun hi=>absurd h2 (by omega)⟩
 ·obtain⟨a1,a2⟩:=h.vo i h1 h2 hi;exact⟨a1.at_blocks (fun q hq e=>hk q (by have:=(a1.lt q e).1;omega) hq),a2⟩
 ·have q:=h.ap i h1 h2 hi j h3 h4 hj;exact⟨fun hij=>Rep.keep (q.1 hij) k3,Rep.keep q.2 k3⟩
end
theorem CX.nil {W:World}{g:Nat}(h:Own W g 74 (.slice (some ⟨g,0,none⟩) 0 0) ([]:List SC)):CX W g [] [] 0:=
 ⟨⟨h,rfl,fun _i h1=>absurd h1 (Nat.not_lt_zero _)⟩,fun _i h1=>absurd h1 (Nat.not_lt_zero _),fun _i h1=>absurd h1 (Nat.not_lt_zero _)⟩
theorem up_own {α:Type}[Rep α]{w:World}{base B:Nat}{e:TypeId}{v:Value}{l:List α}(h:OwnP w base e v l (Up base))(hB:B≤base):OwnP w B e v l (Up B):=
 ⟨(h.mono (Q:=Up B) (fun _ hi _=>Nat.le_trans hB hi)).own.re hB,(h.mono (Q:=Up B) (fun _ hi _=>Nat.le_trans hB hi)).at_⟩
theorem run_copy_zero {P:Program}(w:World)(dT sT ty e:TypeId)(n:Nat)(hu:P.underlying dT=some (.slice e))(hs:(P.info? e).map (·.size)=some n)(ad:Addr)(A:Option Addr)(c:Nat):
 (Builtin.copy_ #[dT,sT] ty #[.slice (some ad) 0 0,.slice A 0 c]).run P w=.ok (goInt 0) w:=by
 cases hq:P.info? e with
 |none=>simp[hq] at hs
 |some i=>
  cases A with
  |none=>simp[Builtin.copy_,run_underlying hu,Builtin.lenOf,sizeOf,typeInfo,hq,Builtin.firstCells,storeCells]
  |some a=>
   have hf:=run_firstCells_some (P:=P) w i.size 0 a 0 c [] (by simp) (fun j u hu=>by simp at hu);simp[Builtin.copy_,run_underlying hu,Builtin.lenOf,sizeOf,typeInfo,hq,hf,storeCells]
set_option maxRecDepth 100000 in
theorem cloned_own (A:Option Addr)(c:Nat)(l:List SectP)(m h:Int)(w:World)(hs:Sl w (fun b=>b<w.heap.size) A c l)(hsh:Qbe l):
 Calls Tryz.prog 93 #[.agg #[.int .i64 m,.int .i64 h,.slice A l.length c]] w fun e w'=>∃g rows,e=.returned (.agg #[.int .i64 m,.int .i64 h,.slice (some ⟨g,0,none⟩) l.length l.length])∧w.heap.size≤g∧g<w'.heap.size∧CX w' g rows l l.length∧Below w.heap.size w w':=by
 obtain⟨wb,hwb⟩:∃wb,(w.alloc (.cells #[.int .i64 m,.int .i64 h,.slice A l.length c] 25)).alloc (.cells #[.int .i64 0,.int .i64 0,.slice none 0 0] 25)=wb:=⟨_,rfl⟩;have hba:Below w.heap.size w wb:=by rw[←hwb];exact(bR.alloc nL _).alloc (by simp) _
 have hsz:wb.heap.size=w.heap.size+2:=by rw[←hwb];simp
 have hx0:ABox wb w.heap.size 25 [.int .i64 m,.int .i64 h,.slice A l.length c]:=by rw[←hwb];exact(Below.heap_alloc _ _ _ (by simp)).trans (heap_alloc_new w _)
 have hx1:ABox wb (w.heap.size+1) 25 [.int .i64 0,.int .i64 0,.slice none 0 0]:=by rw[←hwb];exact Qak (by simp)
 have hl63:l.length≤1048576:=hsh.1;obtain⟨wm,hwm⟩:∃wm,wb.alloc (.cells (madeCells #[.int .i64 0,.bool false,.slice none 0 0,.slice none 0 0] (l.length*4)) 74)=wm:=⟨_,rfl⟩;have hbm:Below wb.heap.size wb wm:=by rw[←hwm];exact bR.alloc nL _
 have hgm:wm.heap[wb.heap.size]? =some (.cells (madeCells #[.int .i64 0,.bool false,.slice none 0 0,.slice none 0 0] (l.length*4)) 74 (0,0)):=by rw[←hwm];exact heap_alloc_new wb _
 have hzm:wm.heap.size=wb.heap.size+1:=by rw[←hwm];simp
 have HSM:Hid (Sl wm (fun b=>b<wb.heap.size) A c l):=Lh ((hs.to hba).keep (Kept.all hbm) hbm.size);have HX0m:=Lh (hx0.to hbm);have HX1m:=Lh (hx1.to hbm);have c2:wb.cell? ⟨w.heap.size,2,none⟩=some (.slice A l.length c):=hx0.cell 2 rfl;have c2m:wm.cell? ⟨w.heap.size,2,none⟩=some (.slice A l.length c):=HX0m.out.cell 2 rfl;have HSH:=Lh hsh;have HBA:=Lh hba;have HBM:Hid (Below w.heap.size w wm):=Lh (hba.trans (hbm.mono hba.size));have HGM:=Lh hgm;have HZM:=Lh hzm;have HSZ:=Lh hsz;clear hba hx0 hx1 hs hsh hbm hgm hzm hsz;go_enter Tryz.func93,Tryz.ntmps93;go_upto_region 1 with(fail);(try rw[hwb]);have HWB:=Lh hwb;clear hwb
 go_upto_region 2 with(first|(refine QaY rfl 23 (.tmp 11) (.tmp 11) rfl 74 (.agg #[.int .i64 0,.bool false,.slice none 0 0,.slice none 0 0]) 4 64 Tryz.underlying23 QbV l.length rfl rfl (by omega) (by omega) ?_)|fail)
 (try rw[hwm]);have HWM:=Lh hwm;clear hwm;by_cases hl0:l.length=0
 ·obtain rfl:l=[]:=List.eq_nil_of_length_eq_zero hl0;have HOP:Hid (OwnP wm wb.heap.size 74 (.slice (some ⟨wb.heap.size,0,none⟩) 0 0) ([]:List SectP) (Up wb.heap.size)):=Lh ⟨⟨[],⟨by simp,.inr ⟨wb.heap.size,0,_,rfl,Nat.le_refl _,HGM.out,Nat.le_refl _,by simp[maxLen],size_madeCells _ _,by simp⟩⟩,by simp,fun i h=>absurd h (by simp)⟩,fun q hq=>by cases hq;exact Nat.le_refl _⟩;have x2:=HX0m.out.cell 2 rfl;have xf:=HX0m.out.fz 2;have HY0:=Lh (HX0m.out.set 2 (.slice (some ⟨wb.heap.size,0,none⟩) 0 0));have HY1:=Lh (HX1m.out.other (show w.heap.size+1≠w.heap.size by omega) 2 (.slice (some ⟨wb.heap.size,0,none⟩) 0 0));have y0:=HY0.out.cell 0 rfl;have y1:=HY0.out.cell 1 rfl;have y2:=HY0.out.cell 2 rfl;have z0:=HY1.out.cell 0 rfl;have z1:=HY1.out.fz 0;have z2:=(HY1.out.set 0 (.int .i64 m)).cell 1 rfl;have z3:=(HY1.out.set 0 (.int .i64 m)).fz 1;have z4:=((HY1.out.set 0 (.int .i64 m)).set 1 (.int .i64 h)).cell 2 rfl;have z5:=((HY1.out.set 0 (.int .i64 m)).set 1 (.int .i64 h)).fz 2;have HYF:=Lh (((HY1.out.set 0 (.int .i64 m)).set 1 (.int .i64 h)).set 2 (.slice (some ⟨wb.heap.size,0,none⟩) 0 0));have h0:w.heap.size≤w.heap.size+1:=by omega
  have HBF:=Lh ((((HBM.out.setCell (p:=⟨w.heap.size,2,none⟩) nL (.slice (some ⟨wb.heap.size,0,none⟩) 0 0)).setCell (p:=⟨w.heap.size+1,0,none⟩) h0 (.int .i64 m)).setCell (p:=⟨w.heap.size+1,1,none⟩) h0 (.int .i64 h)).setCell (p:=⟨w.heap.size+1,2,none⟩) h0 (.slice (some ⟨wb.heap.size,0,none⟩) 0 0));have hn0:∀i,Up wb.heap.size i→i≠w.heap.size:=fun i (hi:wb.heap.size≤i)=>by have:=HSZ.out;omega
  have hn1:∀i,Up wb.heap.size i→i≠w.heap.size+1:=fun i (hi:wb.heap.size≤i)=>by have:=HSZ.out;omega
  have HOF:=Lh (CX.nil (((((HOP.out.set w.heap.size 2 (.slice (some ⟨wb.heap.size,0,none⟩) 0 0) hn0).set (w.heap.size+1) 0 (.int .i64 m) hn1).set (w.heap.size+1) 1 (.int .i64 h) hn1).set (w.heap.size+1) 2 (.slice (some ⟨wb.heap.size,0,none⟩) 0 0) hn1).own.conv ([]:List SC) rfl rfl (fun i h1=>absurd h1 (Nat.not_lt_zero _))));clear hn0 hn1 h0 HOP;have hcp:=run_copy_zero (P:=Tryz.prog) wm 23 23 3 74 4 Tryz.underlying23 (by kernel_rfl) ⟨wb.heap.size,0,none⟩ A c;go_wp2_with fail;clear hcp;go_loopw [19] (fun vi wr=>vi=.int .i64 0∧wr=wm) (fun _ _=>0);(case atStart=>exact⟨rfl,rfl⟩);case round=>
   obtain⟨rfl,rfl⟩:=hrel;go_wp2_with fail;exact bodyPost_ret (v:=.agg #[.int .i64 m,.int .i64 h,(.slice (some ⟨wb.heap.size,0,none⟩) 0 0)]) (Qb2 Tryz.results93 _ _ (w.heap.size+1) _ #[.int .i64 m,.int .i64 h,(.slice (some ⟨wb.heap.size,0,none⟩) 0 0)] (0,0) _ rfl HYF.out Tryz.underlying25 rfl (by kernel_rfl)) rfl ⟨_,[],rfl,by have:=HSZ.out;omega,by have:=HZM.out;simp;omega,HOF.out,HBF.out⟩
 ·have HN0:=Lh hl0
  go_upto_region 3 with(first|(refine QbU (α:=Av SectP (fun b=>b<wb.heap.size)) rfl (.tmp 13) (.tmp 15) 23 23 rfl 74 Tryz.underlying23 (by kernel_rfl) wb.heap.size l.length _ A c (l.map Av.mk) (by rw[qM]) rfl rfl ((HSM.out.av (P:=fun b=>b<wb.heap.size) (fun i hi _=>hi)).mono (fun i hi _=>Nat.ne_of_lt hi)) (by omega) HGM.out (size_madeCells _ _) wb.heap.size nL (by unfold maxLen;omega) ?_;intro w2 ho2 hg2)|fail)
  obtain⟨rows,hrl,hro,hrf⟩:=ho2.sc;have HX02:Hid (ABox w2 w.heap.size 25 [.int .i64 m,.int .i64 h,.slice A l.length c]):=Lh ((hg2.block _ HX0m.out.lt (by intro e;injection e with e;have:=HSZ.out;omega)).trans HX0m.out);have HX12:Hid (ABox w2 (w.heap.size+1) 25 [.int .i64 0,.int .i64 0,.slice none 0 0]):=Lh ((hg2.block _ HX1m.out.lt (by intro e;injection e with e;have:=HSZ.out;omega)).trans HX1m.out);have HB2:Hid (Below w.heap.size w w2):=Lh (HBM.out.grown hg2 HBM.out.size (fun k hk=>by cases hk;have:=HSZ.out;omega));have HC0:Hid (CX w2 wb.heap.size rows l 0):=Lh ⟨⟨hro,hrl,fun i h1 h2=>⟨(hrf i h1 h2).1,(hrf i h1 h2).2.1,(hrf i h1 h2).2.2.1,fun h=>absurd h (Nat.not_lt_zero _),fun _=>(hrf i h1 h2).2.2.2⟩⟩,fun i _ _ h=>absurd h (Nat.not_lt_zero _),fun i _ _ h=>absurd h (Nat.not_lt_zero _)⟩;have HGL:Hid (wb.heap.size<w2.heap.size):=Lh (by have:=hg2.size;have:=HZM.out;omega);clear ho2 hg2 hrl hro hrf HGM HX0m HX1m HBM HSM c2m c2;obtain⟨g,hg⟩:∃g,wb.heap.size=g:=⟨_,rfl⟩;rw[hg] at HC0 HGL HSZ ⊢;have HGE:=Lh hg;clear hg hl0;clear HWM HZM;clear wm;go_wp2_with fail;go_loopw [19] (fun vi wr=>∃(k:Nat) (rows:List SC),k≤l.length∧vi=.int .i64 (k:Int)∧Hid (CX wr g rows l k)∧Hid (Below w.heap.size w wr∧g<wr.heap.size)∧Hid (ABox wr w.heap.size 25 [.int .i64 m,.int .i64 h,.slice A l.length c])∧Hid (ABox wr (w.heap.size+1) 25 [.int .i64 0,.int .i64 0,.slice none 0 0])) (fun vi _=>l.length-(intOf vi).toNat);(case atStart=>exact⟨0,rows,Nat.zero_le _,rfl,HC0,Lh ⟨HB2.out,HGL.out⟩,HX02,HX12⟩);case round=>
   clear HC0 HB2 HGL HX02 HX12;clear rows w2;obtain⟨k,rows,hk,rfl,HCS,HB,HX0,HX1⟩:=hrel;have HCS0:=HCS;obtain⟨wo,rfl⟩:∃wo:World,wo=wr:=⟨_,rfl⟩;by_cases hlt:k<l.length
   ·have hkl:(k:Int)<(l.length:Int):=by omega
    have hk0:(0:Int)≤(k:Int):=(by omega);have hkr:k<rows.length:=(by rw[HCS.out.cs.len];exact hlt);obtain⟨r0,r1,r2,r3,hfz⟩:=HCS.out.cs.row hlt hkr;obtain⟨f1,f2,-,-,f3⟩:=HCS.out.cs.f k hkr hlt;obtain⟨⟨Ag,cg,e1,hvS,-⟩,⟨An,cn,e2,htS,-⟩⟩:=f3 (Nat.le_refl k);injection e1 with e1 _
    injection e2 with e2 _
    rw[f1] at r0;rw[f2] at r1;rw[e1] at r2;rw[e2] at r3;have HXS:=Lh (HSH.out.2 l[k] (List.getElem_mem hlt));obtain⟨x,hx⟩:∃x,l[k]=x:=⟨_,rfl⟩;have HXE:=Lh hx;rw[hx] at r0 r1 r2 r3 hvS htS HXS;have HVS:=Lh hvS;have HTS:=Lh htS;clear hfz f1 f2 f3 hvS htS hx e1 e2;have hm9:x.texts.length≤1048576:=HXS.out.2.1;obtain⟨ws,hws⟩:∃ws,wo.alloc (.cells #[.int .i64 x.entry,.bool x.frozen,.slice Ag x.vers.length cg,.slice An x.texts.length cn] 74)=ws:=⟨_,rfl⟩;have hbs:Below wo.heap.size wo ws:=(by rw[←hws];exact bR.alloc nL _);have hys:ABox ws wo.heap.size 74 [.int .i64 x.entry,.bool x.frozen,.slice Ag x.vers.length cg,.slice An x.texts.length cn]:=(by rw[←hws];exact heap_alloc_new wo _);have hzs:ws.heap.size=wo.heap.size+1:=(by rw[←hws];simp);obtain⟨wt,hwt⟩:∃wt,ws.alloc (.cells (madeCells #[.slice none 0 0,.slice none 0 0] (x.texts.length*2)) 36)=wt:=⟨_,rfl⟩;have hbt:Below ws.heap.size ws wt:=by rw[←hwt];exact bR.alloc nL _
    have hot:Own wt ws.heap.size 36 (.slice (some ⟨ws.heap.size,0,none⟩) x.texts.length x.texts.length) (List.replicate x.texts.length (⟨⟨[],[]⟩⟩:Av TextP (fun b=>wo.heap.size≤b))):=by
     rw[←hwt];exact own_made (α:=Av TextP (fun b=>wo.heap.size≤b)) ws nL (by unfold maxLen;omega) rfl (show 0<2 by decide) (by simp[Value.oneCell']) (fun W S=>⟨_,_,rfl,⟨none,0,rfl,Sl.nil _ _ _ _ (by simp[maxLen]),by simp⟩,⟨none,0,rfl,Sl.nil _ _ _ _ (by simp[maxLen]),by simp⟩⟩)
    have hzt:wt.heap.size=ws.heap.size+1:=(by rw[←hwt];simp);have HBWT:Hid (Below wo.heap.size wo wt):=Lh (hbs.trans (hbt.mono hbs.size));have HYT:=Lh (hys.to hbt);have y3:=hys.cell 3 rfl;have y3t:=HYT.out.cell 3 rfl;have HOT:=Lh hot;have HZT:Hid (ws.heap.size=wo.heap.size+1∧wt.heap.size=wo.heap.size+2):=Lh ⟨hzs,by omega⟩;clear hbs hys hzs hbt hot hzt;go_upto_region 6 with(fail);(try rw[hws]);have HWS:=Lh hws;clear hws r0 r1 r2 r3
    go_upto_region 7 with(first|(refine QaY rfl 72 (.tmp 26) (.tmp 26) rfl 36 (.agg #[.slice none 0 0,.slice none 0 0]) 2 48 Tryz.underlying72 QdX x.texts.length rfl rfl (by omega) (by omega) ?_)|fail)
    (try rw[hwt]);have HWT:=Lh hwt;clear hwt y3;go_wp2_with fail;clear y3t;have HCT:=Lh (HCS.out.to HBWT.out);have HX0T:=Lh (HX0.out.to HBWT.out);have HX1T:=Lh (HX1.out.to HBWT.out)
    go_loopw [31] (fun vj wr2=>∃j:Nat,j≤x.texts.length∧vj=.int .i64 (j:Int)∧Hid (CX wr2 g rows l k)∧Hid (Below wo.heap.size wo wr2∧ws.heap.size<wr2.heap.size)∧Hid (ABox wr2 wo.heap.size 74 [.int .i64 x.entry,.bool x.frozen,.slice Ag x.vers.length cg,.slice An x.texts.length cn])∧ Hid (Own wr2 ws.heap.size 36 (.slice (some ⟨ws.heap.size,0,none⟩) x.texts.length x.texts.length) ((x.texts.take j++List.replicate (x.texts.length-j) (⟨[],[]⟩:TextP)).map (Av.mk:TextP→Av TextP (fun b=>wo.heap.size≤b))))∧ Hid (ABox wr2 w.heap.size 25 [.int .i64 m,.int .i64 h,.slice A l.length c])∧Hid (ABox wr2 (w.heap.size+1) 25 [.int .i64 0,.int .i64 0,.slice none 0 0])) (fun vj _=>x.texts.length-(intOf vj).toNat)
    (case atStart=>exact⟨0,Nat.zero_le _,rfl,HCT,Lh ⟨HBWT.out,by have:=HZT.out;omega⟩,HYT,Lh (by have:=HOT.out;simpa using this),HX0T,HX1T⟩);case round=>
     clear HCT HX0T HX1T HYT HOT HBWT;clear HWT;have HZS:Hid (ws.heap.size=wo.heap.size+1):=Lh HZT.out.1;clear HZT;clear wt;obtain⟨j,hj,rfl,HCS2,HBI,HYS,HOW,HX02,HX12⟩:=hrel;by_cases hlj:j<x.texts.length
     ·have hjl:(j:Int)<(x.texts.length:Int):=by omega
      have hj0:(0:Int)≤(j:Int):=(by omega);have HTSr:Hid (Sl wr (fun b=>b<g) An cn x.texts):=Lh (HTS.out.old (fun i hi hil=>HBI.out.1.block i (by have:=HB.out.2;omega)) (by have:=HB.out.2;have:=HBI.out.1.size;omega));obtain⟨b,o,Aa,ca,Ab,cb,hA,hbg,hbl,t0,t1,haS,hbS⟩:=Qcn HTSr.out hlj;subst hA;have HSX:=Lh (HXS.out.2.2 x.texts[j] (List.getElem_mem hlj));have HST:=Lh (texts_set x.texts (fun b=>wo.heap.size≤b) hlj);have hlc:x.texts.length≤cn:=HTSr.out.1;obtain⟨y,hy⟩:∃y,x.texts[j]=y:=⟨_,rfl⟩;rw[hy] at t0 t1 haS hbS HSX HST;obtain⟨wz,hwz⟩:∃wz,wr.alloc (.cells #[.slice Aa y.a.length ca,.slice Ab y.b.length cb] 36)=wz:=⟨_,rfl⟩;have hbz:Below wr.heap.size wr wz:=(by rw[←hwz];exact bR.alloc nL _);have hzz:ABox wz wr.heap.size 36 [.slice Aa y.a.length ca,.slice Ab y.b.length cb]:=(by rw[←hwz];exact heap_alloc_new wr _);have z0:=hzz.cell 0 rfl;have z1:=hzz.cell 1 rfl;have HAS:Hid (Sl wz (fun b=>b<wz.heap.size) Aa ca y.a):=Lh ((haS.keep (Kept.all hbz) hbz.size).mono (fun i hi hl=>hl));have HBS:Hid (Sl wz (fun b=>b<wz.heap.size) Ab cb y.b):=Lh ((hbS.keep (Kept.all hbz) hbz.size).mono (fun i hi hl=>hl));have HBZ:=Lh hbz;clear hy haS hbS hzz hbz HTSr;go_upto_region 10 with(fail);(try rw[hwz]);have HWZ:=Lh hwz;clear hwz t0 t1;have HCL:Hid (Calls Tryz.prog 71 #[.agg #[.slice Aa y.a.length ca,.slice Ab y.b.length cb]] wz fun e w'=>∃va vb,e=.returned (.agg #[va,vb])∧Rep.R w' (Up wz.heap.size) [va,vb] (⟨y.a,y.b⟩:TextP)∧Below wz.heap.size wz w'):=Lh (QcK Aa Ab ca cb y.a y.b wz HAS.out HBS.out HSX.out.1 HSX.out.2);obtain⟨L,hL⟩:∃L:List (Av TextP (fun b=>wo.heap.size≤b)),((x.texts.take j++List.replicate (x.texts.length-j) (⟨[],[]⟩:TextP)).map (Av.mk:TextP→Av TextP (fun b=>wo.heap.size≤b)))=L:=⟨_,rfl⟩;have hLL:x.texts.length=L.length:=(by rw[←hL];simp;omega);rw[hL] at HOW HST;have HLL:=Lh hLL;clear hL hLL
      go_wp2_with (first
       |(go_at_call 71;refine HCL.out.mono ?_;rintro e w5 ⟨va,vb,rfl,hr5,hb5⟩;have hb5w:Below wr.heap.size wr w5:=HBZ.out.trans (hb5.mono HBZ.out.size);have ho5:Own w5 ws.heap.size 36 (.slice (some ⟨ws.heap.size,0,none⟩) L.length x.texts.length) L:=(by have h:=HOW.out.below hb5w;rwa [show Value.slice (some ⟨ws.heap.size,0,none⟩) x.texts.length x.texts.length=Value.slice (some ⟨ws.heap.size,0,none⟩) L.length x.texts.length by rw[←HLL.out]] at h);have hdi:j<L.length:=(by rw[←HLL.out];exact hlj);have HTH:=Lh (ho5.there hdi);have hrp:Rep.R w5 (fun b=>b≠ws.heap.size) [va,vb] (⟨⟨y.a,y.b⟩⟩:Av TextP (fun b=>wo.heap.size≤b)):=Rep.mono (α:=TextP) hr5 (fun i hi _=>(by have h1:wz.heap.size≤i:=hi;have h2:=HBZ.out.size;have h3:=HBI.out.2;have h4:=HZS.out;have h5:=HB.out.2;exact⟨by omega,by omega⟩));have HSM:=Lh (ho5.setMid hdi hrp);have HON:Hid ((#[va,vb]:Array Value).all (·.oneCell')=true):=Lh (by have h1:=Rep.one hr5 va (by simp);have h2:=Rep.one hr5 vb (by simp);simp[h1,h2]);have HB5:=Lh hb5w;clear hr5 hb5 hb5w ho5 hdi hrp)
       |(refine wpList_store_mid rfl 36 (.tmp 40) (.tmp 39) rfl ws.heap.size (j*2) #[va,vb] rfl rfl HTH.out (by kernel_rfl) HON.out ?_)
       |fail)
      go_roundw;have hws:wo.heap.size≤ws.heap.size:=(by have:=HZS.out;omega);have HB6:Hid (Below wo.heap.size wo (w5.setCells ws.heap.size (j*2) [va,vb])):=Lh (Qbx hws _ _ (HBI.out.1.trans (HB5.out.mono HBI.out.1.size)));have HS6:Hid (ws.heap.size<(w5.setCells ws.heap.size (j*2) [va,vb]).heap.size):=Lh (by rw[QbL];have:=HBI.out.2;have:=HB5.out.size;omega);have HY6:Hid (ABox (w5.setCells ws.heap.size (j*2) [va,vb]) wo.heap.size 74 [.int .i64 x.entry,.bool x.frozen,.slice Ag x.vers.length cg,.slice (some ⟨b,o,none⟩) x.texts.length cn]):=Lh ((QaB _ (show wo.heap.size≠ws.heap.size by have:=HZS.out;omega) _ _ _).trans (HYS.out.to HB5.out))
      have HO6:Hid (Own (w5.setCells ws.heap.size (j*2) [va,vb]) ws.heap.size 36 (.slice (some ⟨ws.heap.size,0,none⟩) x.texts.length x.texts.length) ((x.texts.take (j+1)++List.replicate (x.texts.length-(j+1)) (⟨[],[]⟩:TextP)).map (Av.mk:TextP→Av TextP (fun b=>wo.heap.size≤b)))):=Lh (by
       rw[←HST.out]
       have h:=HSM.out
       rw[←HLL.out] at h
       exact h)
      clear HSM HTH HON HB5;(case rel=>exact⟨j+1,by omega,by go_num,Lh (HCS.out.to HB6.out),Lh ⟨HB6.out,HS6.out⟩,HY6,HO6,Lh (HX0.out.to HB6.out),Lh (HX1.out.to HB6.out)⟩);case measure=>(first|(simp[intOf];done)|(simp[intOf];omega))
     ·have HJE:Hid (((x.texts.take j++List.replicate (x.texts.length-j) (⟨[],[]⟩:TextP)).map (Av.mk:TextP→Av TextP (fun b=>wo.heap.size≤b)))=x.texts.map Av.mk):=Lh (by rw[show j=x.texts.length by omega,List.take_length,Nat.sub_self,List.replicate_zero,List.append_nil]);rw[HJE.out] at HOW;have HVSr:Hid (Sl wr (fun b=>b<wr.heap.size) Ag cg x.vers):=Lh ((HVS.out.old (fun i hi hil=>HBI.out.1.block i (by have:=HB.out.2;omega)) (by have:=HB.out.2;have:=HBI.out.1.size;omega)).mono (fun i hi hl=>hl));have y2:=HYS.out.cell 2 rfl;have hkc:l.length≤l.length:=Nat.le_refl _;have HCLN:Hid (Calls Tryz.prog 137 #[.slice Ag x.vers.length cg] wr fun e w'=>∃v,e=.returned v∧Own w' wr.heap.size 3 v x.vers∧Below wr.heap.size wr w'):=Lh (QcL Ag cg x.vers.length x.vers wr HVSr.out rfl (by have:=HXS.out.1;omega));go_wp2_with fail;refine HCLN.out.mono ?_;rintro e w7 ⟨v7,rfl,ho7,hb7⟩;obtain⟨A7,c7,rfl,-⟩:=ho7.form;have HB7:Hid (Below wo.heap.size wo w7):=Lh (HBI.out.1.trans (hb7.mono HBI.out.1.size));have HT7:Hid (Rep.R w7 (fun b=>wo.heap.size≤b∧some b≠(Value.slice A7 x.vers.length c7).ownBlock) [.slice (some ⟨ws.heap.size,0,none⟩) x.texts.length x.texts.length] x.texts):=Lh (Rep.mono (Rep.keep ((show OwnP wr ws.heap.size 36 (.slice (some ⟨ws.heap.size,0,none⟩) x.texts.length x.texts.length) x.texts (fun b=>wo.heap.size≤b) from⟨HOW.out,fun q hq=>(by cases hq;have:=HZS.out;show wo.heap.size≤ws.heap.size;omega)⟩).rep (S:=fun b=>wo.heap.size≤b∧b<wr.heap.size) (by omega) (fun i hi hl=>⟨hi,hl⟩)) (Kept.all hb7)) (fun b hb _=>⟨hb.1,fun e=>by have:=(ho7.lt b e.symm).1;have:=hb.2;omega⟩));have HO7:Hid (Own w7 wo.heap.size 3 (.slice A7 x.vers.length c7) x.vers):=Lh (ho7.re HBI.out.1.size);have HC7:=Lh (HCS.out.to HB7.out);have hq7:=(HC7.out.cs.row hlt hkr).2.2.1;have hq8:=(HC7.out.cs.row hlt hkr).2.2.2.1;have hf7:=(HC7.out.cs.row hlt hkr).2.2.2.2 (k*4+2);have hf8:=(HC7.out.cs.row hlt hkr).2.2.2.2 (k*4+3);have hq9:(w7.setCell ⟨g,k*4+2,none⟩ (.slice A7 x.vers.length c7)).cell? ⟨g,k*4+3,none⟩=some rows[k].v2:=(World.cell?_setCell_other _ _ _ _ (by intro h;injection h with _ h;omega)).trans hq8;have hf9:(w7.setCell ⟨g,k*4+2,none⟩ (.slice A7 x.vers.length c7)).frozen? ⟨g,k*4+3,none⟩=false:=(World.frozen?_setCell _ _ _ _).trans hf8;clear ho7 hb7 hq8 hf8;go_wp2_with fail;go_roundw;obtain⟨rows',hcl⟩:=HCS0.out.set HB7.out HB.out.2 hlt (v1:=.slice A7 x.vers.length c7) (v2:=.slice (some ⟨ws.heap.size,0,none⟩) x.texts.length x.texts.length) (by rw[HXE.out];exact HO7.out) (by rw[HXE.out];have:=HXS.out.1;omega) (by rw[HXE.out];exact HT7.out) (by rw[HXE.out];exact⟨_,rfl⟩);have HC8:=Lh hcl;have hgw:w.heap.size≤g:=by have:=HSZ.out;omega
      have HB8:Hid (Below w.heap.size w ((w7.setCell ⟨g,k*4+2,none⟩ (.slice A7 x.vers.length c7)).setCell ⟨g,k*4+3,none⟩ (.slice (some ⟨ws.heap.size,0,none⟩) x.texts.length x.texts.length))∧g<((w7.setCell ⟨g,k*4+2,none⟩ (.slice A7 x.vers.length c7)).setCell ⟨g,k*4+3,none⟩ (.slice (some ⟨ws.heap.size,0,none⟩) x.texts.length x.texts.length)).heap.size):=Lh ⟨((HB.out.1.trans (HB7.out.mono HB.out.1.size)).setCell (p:=⟨g,k*4+2,none⟩) hgw _).setCell (p:=⟨g,k*4+3,none⟩) hgw _,by have:=HB7.out.size;have:=HB.out.2;simp;omega⟩;have HX08:Hid (ABox ((w7.setCell ⟨g,k*4+2,none⟩ (.slice A7 x.vers.length c7)).setCell ⟨g,k*4+3,none⟩ (.slice (some ⟨ws.heap.size,0,none⟩) x.texts.length x.texts.length)) w.heap.size 25 [.int .i64 m,.int .i64 h,.slice A l.length c]):=Lh (((HX0.out.to HB7.out).other (by have:=HSZ.out;omega) _ _).other (by have:=HSZ.out;omega) _ _);have HX18:Hid (ABox ((w7.setCell ⟨g,k*4+2,none⟩ (.slice A7 x.vers.length c7)).setCell ⟨g,k*4+3,none⟩ (.slice (some ⟨ws.heap.size,0,none⟩) x.texts.length x.texts.length)) (w.heap.size+1) 25 [.int .i64 0,.int .i64 0,.slice none 0 0]):=Lh (((HX1.out.to HB7.out).other (by have:=HSZ.out;omega) _ _).other (by have:=HSZ.out;omega) _ _);(case rel=>exact⟨k+1,rows',by omega,by go_num,HC8,HB8,HX08,HX18⟩);case measure=>(first|(simp[intOf];done)|(simp[intOf];omega))
   ·have HFI:Hid (CX wo g rows l l.length):=Lh (by have:=HCS.out;rwa [show k=l.length by omega] at this);have HOP:=Lh HFI.out;clear HCS HFI;have x2:=HX0.out.cell 2 rfl;have xf:=HX0.out.fz 2;have HY0:=Lh (HX0.out.set 2 (.slice (some ⟨g,0,none⟩) l.length l.length));have HY1:=Lh (HX1.out.other (show w.heap.size+1≠w.heap.size by omega) 2 (.slice (some ⟨g,0,none⟩) l.length l.length));have y0:=HY0.out.cell 0 rfl;have y1:=HY0.out.cell 1 rfl;have y2:=HY0.out.cell 2 rfl;have z0:=HY1.out.cell 0 rfl;have z1:=HY1.out.fz 0;have z2:=(HY1.out.set 0 (.int .i64 m)).cell 1 rfl;have z3:=(HY1.out.set 0 (.int .i64 m)).fz 1;have z4:=((HY1.out.set 0 (.int .i64 m)).set 1 (.int .i64 h)).cell 2 rfl;have z5:=((HY1.out.set 0 (.int .i64 m)).set 1 (.int .i64 h)).fz 2;have HYF:=Lh (((HY1.out.set 0 (.int .i64 m)).set 1 (.int .i64 h)).set 2 (.slice (some ⟨g,0,none⟩) l.length l.length));have h0:w.heap.size≤w.heap.size+1:=by omega
    have HBF:=Lh ((((HB.out.1.setCell (p:=⟨w.heap.size,2,none⟩) nL (.slice (some ⟨g,0,none⟩) l.length l.length)).setCell (p:=⟨w.heap.size+1,0,none⟩) h0 (.int .i64 m)).setCell (p:=⟨w.heap.size+1,1,none⟩) h0 (.int .i64 h)).setCell (p:=⟨w.heap.size+1,2,none⟩) h0 (.slice (some ⟨g,0,none⟩) l.length l.length))
    have HOF:=Lh (HOP.out.kept (W':=(((wo.setCell ⟨w.heap.size,2,none⟩ (.slice (some ⟨g,0,none⟩) l.length l.length)).setCell ⟨w.heap.size+1,0,none⟩ (.int .i64 m)).setCell ⟨w.heap.size+1,1,none⟩ (.int .i64 h)).setCell ⟨w.heap.size+1,2,none⟩ (.slice (some ⟨g,0,none⟩) l.length l.length)) (fun i (hi:g≤i) _=>by
     have e0:i≠w.heap.size:=(by have:=HSZ.out;omega)
     have e1:i≠w.heap.size+1:=(by have:=HSZ.out;omega)
     rw[Qaa _ _ _ _ e1,Qaa _ _ _ _ e1,Qaa _ _ _ _ e1,Qaa _ _ _ _ e0]))
    clear h0 HOP;go_wp2_with fail
    exact bodyPost_ret (v:=.agg #[.int .i64 m,.int .i64 h,(.slice (some ⟨g,0,none⟩) l.length l.length)]) (Qb2 Tryz.results93 _ _ (w.heap.size+1) _ #[.int .i64 m,.int .i64 h,(.slice (some ⟨g,0,none⟩) l.length l.length)] (0,0) _ rfl HYF.out Tryz.underlying25 rfl (by kernel_rfl)) rfl ⟨_,_,rfl,by have:=HSZ.out;omega,by have:=HB.out.2;simp;omega,HOF.out,HBF.out⟩
theorem cloned_fit (A:Option Addr)(c:Nat)(l:List SectP)(m h:Int)(w:World)(hs:Sl w (fun b=>b<w.heap.size) A c l)(hsh:Qbe l):
 Calls Tryz.prog 93 #[.agg #[.int .i64 m,.int .i64 h,.slice A l.length c]] w fun e w'=>∃A5,e=.returned (.agg #[.int .i64 m,.int .i64 h,.slice A5 l.length l.length])∧OwnP w' w.heap.size 74 (.slice A5 l.length l.length) l (Up w.heap.size)∧Below w.heap.size w w':=by
 refine(cloned_own A c l m h w hs hsh).mono ?_;rintro e w2 ⟨g,rows,rfl,h1,-,h2,h3⟩;exact⟨_,rfl,up_own h2.cs.done h1,h3⟩
end Go.Proofs.YtegaapiocihcpaaGreatDoor
namespace Go.Proofs.YtegaapiocihcpaaGreatDoor
open Go.RowKit
structure KS (S:Nat→Prop)(a b:World):Prop where
 os:b.os=a.os
 tape:b.tape=a.tape
 output:b.output=a.output
 size:a.heap.size≤b.heap.size
 block:∀i,S i→i<a.heap.size→b.heap[i]? =a.heap[i]?
section
variable {S T:Nat→Prop} {a b c:World}
theorem KS.refl (S:Nat→Prop)(a:World):KS S a a:=⟨rfl,rfl,rfl,Nat.le_refl _,fun _ _ _=>rfl⟩
theorem KS.trans (h:KS S a b)(k:KS S b c):KS S a c:=⟨k.os.trans h.os,k.tape.trans h.tape,k.output.trans h.output,Nat.le_trans h.size k.size,fun i hi hl=>(k.block i hi (Nat.lt_of_lt_of_le hl h.size)).trans (h.block i hi hl)⟩
theorem KS.mono (h:KS S a b)(hS:∀i,T i→i<a.heap.size→S i):KS T a b:=⟨h.os,h.tape,h.output,h.size,fun i hi hl=>h.block i (hS i hi hl) hl⟩
theorem KS.of_below (h:Below a.heap.size a b)(S:Nat→Prop):KS S a b:=⟨h.os,h.tape,h.output,h.size,fun i _ hl=>h.block i hl⟩
theorem KS.kept (h:KS S a b):Kept S a b:=fun i hi hl=>h.block i hi hl
theorem KS.putObj {W:World}{l:Nat}(o:Obj)(hS:¬S l):KS S W (W.putObj l o):=
 have g:=grownBy_putObj' W l o
 ⟨g.os,g.tape,g.output,g.size,fun i hi hl=>g.block i hl (fun e=>hS (by injection e with e;exact e▸hi))⟩
theorem KS.setCell {W:World}{l:Nat}(o:Nat)(u:Value)(hS:¬S l):KS S W (W.setCell ⟨l,o,none⟩ u):=
 ⟨rfl,rfl,rfl,by simp,fun i hi _=>Qaa W l o u (fun e=>hS (e▸hi))⟩
theorem KS.grown {row:Option Nat}(h:a.grownBy b row)(hS:∀i,row=some i→¬S i):KS S a b:=⟨h.os,h.tape,h.output,h.size,fun i hi hl=>h.block i hl (fun e=>hS i e.symm hi)⟩
theorem KS.below {n:Nat}(h:KS S a b)(hS:∀i,i<n→S i)(hn:n≤a.heap.size):Below n a b:=⟨h.os,h.tape,h.output,h.size,fun i hi=>h.block i (hS i hi) (by omega)⟩
end
variable {F:Fence} {n:Nat} {P:Program}
def SeqIn {α:Type}(F:Fence)(n:Nat)(P:Program)(g:Nat)(lb:Array Value)(encs:α→Array Value)(Pr:(Nat→Prop)→α→World→Prop)(n₀:Nat)(S Sp:List α→Prop)(N:Nat)(w:World):Prop:=
 ∀(l:Nat) (J:List α→(Nat→Prop)→(Nat→Prop)→World→Prop) (Jx:List α→World→Prop) (W:World),Below w.heap.size w W→ (∀pre M R A B,J pre M R A→KS (fun i=>i<W.heap.size∨R i) A B→J pre M R B)→
  (∀pre M R x W1 PM,J pre M R W1→W.heap.size≤W1.heap.size→pre.length<N→Pr PM x W1→(∀i,PM i→i<W1.heap.size→W.heap.size≤i∧¬M i)→ YieldAt F (n-1) P l (encs x) W1 fun e W'=>
    (e=.returned (.bool true)∧∃M' R',J (pre++[x]) M' R' W'∧KS (fun i=>i<n₀∨(W.heap.size≤i∧¬M i)) W1 W'∧(∀i,M' i→M i∨(W1.heap.size≤i∧i<W'.heap.size))∧(∀i,R' i→R i∨(PM i∧i<W1.heap.size)∨(W1.heap.size≤i∧i<W'.heap.size)))∨
    (e=.returned (.bool false)∧Jx (pre++[x]) W'))→
  J [] (fun _=>False) (fun _=>False) W→
  CallsIn F n P g (#[.func (.yield l) #[] #[]]++lb) W fun e W'=>(∃v,e=.returned v)∧((∃xs,S xs∧∃M R,J xs M R W')∨(∃pre,Sp pre∧Jx pre W'))
def inPost {α:Type}(n₀ n0:Nat)(I:List α→(Nat→Prop)→(Nat→Prop)→World→Prop)(Ix:Code→List α→World→Prop)(M R PM:Nat→Prop)(xs:List α)(W:World):Exit→Act→World→Prop
 |.normal,_,W'=>∃M' R',I xs M' R' W'∧KS (fun i=>i<n₀∨(n0≤i∧¬M i)) W W'∧(∀i,M' i→M i∨(W.heap.size≤i∧i<W'.heap.size))∧(∀i,R' i→R i∨(PM i∧i<W.heap.size)∨(W.heap.size≤i∧i<W'.heap.size))
 |.ret,_,W'=>Ix .ret xs W'∧KS (fun i=>i=n0∨i=n0+1) W W'
 |.exit id,_,W'=>Ix (.exit id) xs W'∧KS (fun i=>i=n0∨i=n0+1) W W'
 |.goto t,_,W'=>Ix (.goto t) xs W'∧KS (fun i=>i=n0∨i=n0+1) W W'
 |.panic _,_,_=>False
 |.outgrown,_,_=>False
theorem Qc2 {α:Type}{g:Operand}{ps:Array Tmp}{assign body:Code}{Q:Exit→Act→World→Prop}{a:Act}{w:World} (hro:F.round=none) (h1:1≤n) {gf:Nat} {lb:Array Value} (hg:a.eval g=.func (.func gf) #[] lb) (hFg:F.fn gf) (eg:∀args w,(callFunc gf args).run P w=.ok (.enter gf args) w) {encs:α→Array Value} {Pr:(Nat→Prop)→α→World→Prop} {n₀:Nat} {S Sp:List α→Prop} {N:Nat} {w0:World} (hseq:SeqIn F (n-1) P gf lb encs Pr n₀ S Sp N w0) (hb0:Below w0.heap.size w0 w) (hn0:n₀≤w.heap.size) (hps:∀x,(encs x).size=ps.size) (hPr:∀PM x A B,Pr PM x A→KS PM A B→Pr PM x B) (hPm:∀(PM PM':Nat→Prop) x A,Pr PM x A→(∀i,PM i→i<A.heap.size→PM' i)→Pr PM' x A) (I:List α→(Nat→Prop)→(Nat→Prop)→World→Prop) (Ix:Code→List α→World→Prop) (hI:∀pre M R A B,I pre M R A→KS (fun i=>i<w.heap.size∨R i) A B→I pre M R B) (hIx:∀c,OwnFrom w.heap.size (Ix c)) (h0:I [] (fun _=>False) (fun _=>False) w) (Ax:Nat→α→Act→World→Prop) (hAx:∀k x a',OwnFrom w.heap.size (fun(_:Unit) W=>Ax k x a' W))
 (hassign:∀(l:Nat) (x:α) (W:World) (K:Act→World→Prop),(∀a' W',Below W.heap.size W W'→Ax W.heap.size x a' W'→K a' W')→ assign.wpIn (F.inRound l) (n-1-1) P (Exit.then K (fun _ _ _=>False)) {tmps:=(ps.zip (encs x)).foldl (fun t (p,v)=>t.setIfInBounds p v) a.tmps,defers:=[]} W)
 (hbody:∀(l:Nat) (pre:List α) (M R PM:Nat→Prop) (x:α) (a':Act) (W Wp:World),I pre M R Wp→Wp.heap.size≤W.heap.size→I pre M R W→w.heap.size+2≤W.heap.size→(∀i,M i→w.heap.size+2≤i)→(∀i,R i→w.heap.size+2≤i)→Ax Wp.heap.size x a' W→pre.length<N→Pr PM x W→(∀i,PM i→w.heap.size+2≤i∧¬M i∧i<Wp.heap.size)→ body.wpIn (F.inRound l) (n-1-1) P (inPost n₀ w.heap.size I Ix M R PM (pre++[x]) W) a' W)
 (hdone:∀(D:Nat) (xs:List α) (M R:Nat→Prop) (W:World),w.heap.size≤D→D<w.heap.size+2→S xs→I xs M R W→W.heap[D]? =some (.deferred (some []))→Q .normal {a with defers:={target:=.collected D,args:=#[]}::a.defers} W)
 (hstop:∀(D:Nat) (c:Code) (pre:List α) (W:World),w.heap.size≤D→D<w.heap.size+2→Sp pre→Ix c pre W→W.heap[D]? =some (.deferred (some []))→c.wpIn F n P Q {a with defers:={target:=.collected D,args:=#[]}::a.defers} W):
 (Code.rangeFunc g ps assign body).wpIn F n P Q a w:=by
 refine wpIn_rangeFunc ?_;intro fn hfn;rw[hro];obtain⟨rec,hrec⟩:∃rec:LoopState→Option Code→Loop,rec=fun st pe=>{state:=st,pending:=pe,fn,tmps:=a.tmps,params:=ps,assign,body,defers:=w.heap.size}:=⟨_,rfl⟩
 obtain⟨W1,hW1⟩:∃W1,(w.alloc (.deferred (some []))).alloc (.loop (rec .ready none))=W1:=⟨_,rfl⟩;have hs1:W1.heap.size=w.heap.size+2:=by rw[←hW1];simp
 have hL1:W1.heap[w.heap.size+1]? =some (.loop (rec .ready none)):=by
  rw[←hW1];have:=World.alloc_heap_new (w.alloc (.deferred (some []))) (.loop (rec .ready none));rwa [World.size_alloc] at this
 have hK1:W1.heap[w.heap.size]? =some (.deferred (some [])):=by
  rw[←hW1];exact(Below.heap_alloc _ _ _ (by simp)).trans (World.alloc_heap_new w _)
 have hbw:Below w.heap.size w W1:=by rw[←hW1];exact((Below.refl _ w).alloc nL _).alloc (by simp) _
 have hI1:I [] (fun _=>False) (fun _=>False) W1:=hI _ _ _ _ _ h0 (KS.of_below hbw _)
 refine⟨w.heap.size+1,[{target:=.collected w.heap.size,args:=#[]}],W1,{target:=.fn (.func gf) lb,args:=#[.func (.yield (w.heap.size+1)) #[] #[]]},W1,gf,#[.func (.yield (w.heap.size+1)) #[] #[]]++lb,W1,by rw[←hW1,hrec];exact run_enterLoop_outer _ _ _ _ _,by simp only[resolve,hg];simp[go_sem],fun f' hf'=>by simp[Target.leads] at hf';subst hf';exact hFg,by simp[invoke,go_sem,eg],fun _=>h1,?_⟩
 refine(hseq (w.heap.size+1) (fun pre M R W=>I pre M R W∧W1.heap.size≤W.heap.size∧(∀i,M i→w.heap.size+2≤i)∧(∀i,R i→w.heap.size+2≤i)∧W.heap[w.heap.size+1]? =some (.loop (rec .ready none))∧W.heap[w.heap.size]? =some (.deferred (some []))) (fun pre W=>∃c,Ix c pre W∧W.heap[w.heap.size+1]? =some (.loop (rec .done (some c)))∧W.heap[w.heap.size]? =some (.deferred (some []))) W1 (hb0.trans (hbw.mono hb0.size)) ?_ ?_ ⟨hI1,Nat.le_refl _,fun _ h=>h.elim,fun _ h=>h.elim,hL1,hK1⟩).mono ?_
 ·rintro pre M R A B ⟨hi,hsz,hM,hR,hl,hk⟩ hks;exact⟨hI _ _ _ _ _ hi (hks.mono fun i h _=>h.imp (fun h=>by omega) id),Nat.le_trans hsz hks.size,hM,hR,(hks.block _ (.inl (by omega)) (by omega)).trans hl,(hks.block _ (.inl (by omega)) (by omega)).trans hk⟩
 ·rintro pre M R x W PM ⟨hi,hsz,hM,hR,hl,hk⟩ _ hlen hpr hpm;have hy:=run_yield (P:=P) (args:=encs x) hl (by rw[hrec];exact hps x);rw[hrec] at hy;refine⟨fn,_,assign,body,hy,roundIn_of_wpIn hfn (hassign _ x W _ ?_)⟩;clear hy;intro a' Wa hba hax;have hla:Wa.heap[w.heap.size+1]? =some (.loop (rec .ready none)):=(hba.block _ (by omega)).trans hl;have hka:Wa.heap[w.heap.size]? =some (.deferred (some [])):=(hba.block _ (by omega)).trans hk;have hia:=hI _ _ _ _ _ hi (KS.of_below hba _);have hpa:=hPm PM (fun i=>PM i∧i<W.heap.size) x W hpr (fun i h hl=>⟨h,hl⟩);have hpa:=hPr _ x W Wa hpa (KS.of_below hba _);have hza:=hba.size;refine⟨_,run_beginRound hla (by rw[hrec]),?_⟩;obtain⟨Wb,hWb⟩:∃Wb,Wa.putObj (w.heap.size+1) (.loop {rec .ready none with state:=.busy})=Wb:=⟨_,rfl⟩;have hgb:=grownBy_putObj' Wa (w.heap.size+1) (.loop {rec .ready none with state:=.busy});rw[hWb] at hgb;have hlb:Wb.heap[w.heap.size+1]? =some (.loop {rec .ready none with state:=.busy}):=(by rw[←hWb];exact World.putObj_heap_same (by omega));have hkb:Wb.heap[w.heap.size]? =some (.deferred (some [])):=(by rw[←hWb];exact(World.putObj_heap_other (by omega)).trans hka);have hzb:Wa.heap.size≤Wb.heap.size:=hgb.size
  have hib:I pre M R Wb:=hI _ _ _ _ _ hia (KS.grown hgb (fun i e h=>by
   injection e with e
   rcases h with h|h
   ·omega
   ·have:=hR i h;omega))
  have hpb:Pr (fun i=>PM i∧i<W.heap.size) x Wb:=hPr _ x Wa Wb hpa (KS.grown hgb (fun i e h=>by
   injection e with e
   have:=(hpm i h.1 h.2).1
   omega))
  rw[hWb];refine wpIn_mono (hbody _ pre M R (fun i=>PM i∧i<W.heap.size) x a' Wb W hi (by omega) hib (by omega) hM hR (by rw[←hWb];exact(hAx _ x a').putObj (s:=()) _ hax (by omega) hla rfl) hlen hpb (fun i h=>⟨by have:=(hpm i h.1 h.2).1;omega,(hpm i h.1 h.2).2,h.2⟩)) ?_;have fin:∀(jump:Option Code) (W3:World),Wb.heap.size≤W3.heap.size→W3.heap[w.heap.size+1]? =Wb.heap[w.heap.size+1]? →W3.heap[w.heap.size]? =Wb.heap[w.heap.size]? → (Instr.endRound (w.heap.size+1) jump).run P W3=.ok (.bool jump.isNone) (W3.putObj (w.heap.size+1) (.loop (rec (if jump.isNone then .ready else .done) jump)))∧W3.heap[w.heap.size+1]? =some (.loop {rec .ready none with state:=.busy})∧ (W3.putObj (w.heap.size+1) (.loop (rec (if jump.isNone then .ready else .done) jump))).heap[w.heap.size+1]? =some (.loop (rec (if jump.isNone then .ready else .done) jump))∧ (W3.putObj (w.heap.size+1) (.loop (rec (if jump.isNone then .ready else .done) jump))).heap[w.heap.size]? =some (.deferred (some [])):=fun jump W3 hz3 e1 e2=>by
   have hl3:=e1.trans hlb;have:=run_endRound (P:=P) jump hl3;rw[hrec] at this ⊢;exact⟨this,by rw[hrec] at hl3;exact hl3,World.putObj_heap_same (by omega),(World.putObj_heap_other (by omega)).trans (e2.trans hkb)⟩
  have leave:∀(c:Code) (W3:World),Ix c (pre++[x]) W3→KS (fun i=>i=w.heap.size∨i=w.heap.size+1) Wb W3→ (Instr.endRound (w.heap.size+1) (some c)).run P W3=.ok (.bool false) (W3.putObj (w.heap.size+1) (.loop (rec .done (some c))))∧ ∃c',Ix c' (pre++[x]) (W3.putObj (w.heap.size+1) (.loop (rec .done (some c))))∧(W3.putObj (w.heap.size+1) (.loop (rec .done (some c)))).heap[w.heap.size+1]? =some (.loop (rec .done (some c')))∧ (W3.putObj (w.heap.size+1) (.loop (rec .done (some c)))).heap[w.heap.size]? =some (.deferred (some [])):=fun c W3 hix hk3=>by
   obtain⟨hr,hl3,hl4,hk4⟩:=fin (some c) W3 hk3.size (hk3.block _ (.inr rfl) (by omega)) (hk3.block _ (.inl rfl) (by omega));exact⟨hr,c,(hIx c).putObj _ hix (by omega) hl3 rfl,hl4,hk4⟩
  rintro e a3 W3 hp;cases e with
  |normal=>
   obtain⟨M',R',hi3,hk3,hM',hR'⟩:=hp;obtain⟨hr,hl3,hl4,hk4⟩:=fin none W3 hk3.size (hk3.block _ (.inr ⟨by omega,fun h=>by have:=hM _ h;omega⟩) (by omega)) (hk3.block _ (.inr ⟨by omega,fun h=>by have:=hM _ h;omega⟩) (by omega));have hz3:=hk3.size
   have hR2:∀i,R' i→w.heap.size+2≤i:=fun i h=>by
    rcases hR' i h with h|h|h
    ·exact hR i h
    ·have:=(hpm i h.1.1 h.1.2).1;omega
    ·omega
   have hg3:=grownBy_putObj' W3 (w.heap.size+1) (.loop (rec (if(none:Option Code).isNone then .ready else .done) none));refine⟨_,_,hr,.inl ⟨rfl,M',R',⟨hI _ _ _ _ _ hi3 (KS.grown hg3 (fun i e h=>?_)),by have:=hg3.size;omega,fun i h=>?_,hR2,hl4,hk4⟩,?_,fun i h=>?_,fun i h=>?_⟩⟩
   ·injection e with e
    rcases h with h|h
    ·omega
    ·have:=hR2 i h;omega
   ·rcases hM' i h with h|h
    ·exact hM i h
    ·omega
   ·have k1:KS (fun i=>i<n₀∨(W1.heap.size≤i∧¬M i)) W Wa:=KS.of_below hba _;have k2:KS (fun i=>i<n₀∨(W1.heap.size≤i∧¬M i)) Wa Wb:=KS.grown hgb (fun i e h=>by injection e with e;omega);have k3:KS (fun i=>i<n₀∨(W1.heap.size≤i∧¬M i)) Wb W3:=hk3.mono (fun i h _=>h.imp id (fun h=>⟨by omega,h.2⟩));exact((k1.trans k2).trans k3).trans (KS.grown hg3 (fun i e h=>by injection e with e;omega))
   ·rcases hM' i h with h|h
    ·exact .inl h
    ·exact .inr ⟨by omega,Nat.lt_of_lt_of_le h.2 hg3.size⟩
   ·rcases hR' i h with h|h|h
    ·exact .inl h
    ·exact .inr (.inl h.1)
    ·exact .inr (.inr ⟨by omega,Nat.lt_of_lt_of_le h.2 hg3.size⟩)
  |ret=>
   obtain⟨hr,hh⟩:=leave .ret W3 hp.1 hp.2;exact⟨_,_,hr,.inr ⟨rfl,hh⟩⟩
  |exit id=>
   obtain⟨hr,hh⟩:=leave (.exit id) W3 hp.1 hp.2;exact⟨_,_,hr,.inr ⟨rfl,hh⟩⟩
  |goto t=>
   obtain⟨hr,hh⟩:=leave (.goto t) W3 hp.1 hp.2;exact⟨_,_,hr,.inr ⟨rfl,hh⟩⟩
  |panic ch=>exact hp.elim
  |outgrown=>exact hp.elim
 ·rintro e W2 ⟨⟨v,rfl⟩,(⟨xs,hS,M,R,hi,hsz,hM,hR,hl,hk⟩|⟨pre,hSp,c,hi,hl,hk⟩)⟩
  ·refine⟨none,_,by have:=run_endLoop (P:=P) hl (by rw[hrec];simp);rw[hrec] at this;exact this,hdone _ xs M R _ nL (by omega) hS (hI _ _ _ _ _ hi (KS.putObj _ (fun h=>?_))) ((World.putObj_heap_other (by omega)).trans hk)⟩;rcases h with h|h
   ·omega
   ·have:=hR _ h;omega
  ·exact⟨some c,_,by have:=run_endLoop (P:=P) hl (by rw[hrec];simp);rw[hrec] at this;exact this,hstop _ c pre _ nL (by omega) hSp ((hIx c).putObj _ hi (by omega) hl rfl) ((World.putObj_heap_other (by omega)).trans hk)⟩
end Go.Proofs.YtegaapiocihcpaaGreatDoor
namespace Go.Proofs.YtegaapiocihcpaaGreatDoor
open Go.RowKit
def Qag (a b:List (List Word))(m h:Int):List PageP:=if textE a b m h=0 then Qay a b m h.toNat else[]
def QaK (m h entry:Int):Nat→Int→Int→List Int→List TextP→List PageP
 |_,_,_,_,[]=>[]
 |k,num,suf,vs,t::ts=>QaS entry (vs.headD 0) num suf k (Qag t.a t.b m h)++ QaK m h entry (k+1) (if k=0 then num+(Qag t.a t.b m h).length else num) (if k=0 then suf else suf+(Qag t.a t.b m h).length) vs.tail ts
def QaG (m h:Int)(s:SectP):Nat:=match s.texts with
 |[]=>0
 |t::_=>(Qag t.a t.b m h).length
def Qaw (m h:Int):Int→List SectP→List PageP
 |_,[]=>[]
 |num,s::ss=>QaK m h s.entry 0 num 0 s.vers s.texts++Qaw m h (num+QaG m h s) ss
def Qae (m h:Int)(l:List SectP):List PageP:=Qaw m h 0 l
theorem QdR (a b:List (List Word))(m h:Int):(Qag a b m h).length≤100000:=by
 unfold Qag;split
 ·rename_i hE;obtain⟨hf,⟨h1,h2⟩,hp⟩:=Qa0 hE;have e1:=QbJ (Qal a b m) h.toNat (Qaj (QaL a m) (Qal a b m)) (QaL a m) [];have e2:=QcJ hp;have e3:=Qco hf h1 h2;unfold Qay;omega
 ·exact Nat.zero_le _
theorem Qbk (entry ver:Int):∀(ps:List PageP) (num suf:Int) (k:Nat),(QaS entry ver num suf k ps).length=ps.length
 |[],_,_,_=>by simp[QaS]
 |p::ps,num,suf,k=>by rw[QaS,qC,qC,Qbk]
theorem versB_len (m h entry:Int):∀(ts:List TextP) (k:Nat) (num suf:Int) (vs:List Int),(QaK m h entry k num suf vs ts).length≤100000*ts.length
 |[],_,_,_,_=>by simp[QaK]
 |t::ts,k,num,suf,vs=>by
  rw[QaK,qA,Qbk,qC];have h1:=QdR t.a t.b m h;have h2:=versB_len m h entry ts (k+1) (if k=0 then num+(Qag t.a t.b m h).length else num) (if k=0 then suf else suf+(Qag t.a t.b m h).length) vs.tail;omega
theorem sectsB_len (m h:Int):∀(l:List SectP) (num:Int),(∀s∈l,s.texts.length≤1048576)→(Qaw m h num l).length≤104857600000*l.length
 |[],_,_=>by simp[Qaw]
 |s::l,num,hs=>by
  rw[Qaw,qA,qC];have h1:=versB_len m h s.entry s.texts 0 num 0 s.vers;have h2:=sectsB_len m h l (num+QaG m h s) (fun x hx=>hs x (by simp[hx]));have h3:=hs s (by simp);omega
theorem pagesB_len {m h:Int}{l:List SectP}(hs:Qbe l):(Qae m h l).length≤109951162777600000:=by
 have:=sectsB_len m h l 0 (fun s h=>(hs.2 s h).2.1);have:=hs.1;unfold Qae;omega
theorem QbK (entry ver num suf:Int)(k:Nat)(p:PageP)(ps:List PageP):QaS entry ver num suf k (p::ps)= {p with num:=if k=0 then num+1 else num,suf:=if k=0 then suf else suf+1,entry:=entry,ver:=ver}::QaS entry ver (if k=0 then num+1 else num) (if k=0 then suf else suf+1) k ps:=by rw[QaS]
structure PV where
 num:Int
 suf:Int
 entry:Int
 ver:Int
 body:List LineP
 notes:List LineP
 Aa:Option Addr
 ca:Nat
 Ab:Option Addr
 cb:Nat
def PV.plain (x:PV):PageP:=⟨x.num,x.suf,x.entry,x.ver,x.body,x.notes⟩
def PV.enc (x:PV):Array Value:=#[.agg #[.int .i64 x.num,.int .i64 x.suf,.int .i64 x.entry,.int .i64 x.ver,(.slice x.Aa x.body.length x.ca),(.slice x.Ab x.notes.length x.cb)]]
def SmallP (p:PageP):Prop:=p.body.length≤1048576∧p.notes.length≤1048576
theorem Qch (notes:List (List LineP))(h N:Nat):∀(f:Nat) (body queue:List LineP),body.length≤N→queue.length+(body.flatMap (Qab notes)).length≤N→∀p∈setPages notes h f body queue,p.body.length≤N∧p.notes.length≤N
 |0,_,_,_,_=>by simp[setPages]
 |f+1,body,queue,h1,h2=>by
  obtain⟨k,a,b,c,d,e⟩:=Qbm notes h body 0 (min queue.length (h-1)) queue (Nat.min_le_left _ _);intro p hp;rw[setPages] at hp;split at hp
  ·simp at hp
  ·have hs:(body.flatMap (Qab notes)).length=((body.take k).flatMap (Qab notes)).length+((body.drop k).flatMap (Qab notes)).length:=by
    rw[←qA,←List.flatMap_append,List.take_append_drop]
   have hq:(fillP notes h body 0 (min queue.length (h-1)) queue).2.2.length=queue.length+((body.take k).flatMap (Qab notes)).length:=(by rw[d,qA]);rcases List.mem_cons.1 hp with rfl|hp
   ·refine⟨?_,?_⟩
    ·show(body.take _).length≤N;rw[qK];omega
    ·show((fillP notes h body 0 (min queue.length (h-1)) queue).2.2.take _).length≤N;rw[qK];omega
   ·refine Qch notes h N f _ _ ?_ ?_ p hp
    ·rw[List.length_drop];omega
    ·rw[List.length_drop,b,Nat.zero_add];omega
theorem okPages_small (a b:List (List Word))(m h:Int):∀p∈Qag a b m h,SmallP p:=by
 unfold Qag;split
 ·rename_i hE;obtain⟨hf,⟨h1,h2⟩,hp⟩:=Qa0 hE;have e2:=QcJ hp;have e3:=Qco hf h1 h2;have e4:=Qcm (Qal a b m) (QaL a m);intro p hp;have:=Qch (Qal a b m) h.toNat 100000 _ (QaL a m) [] (by omega) (by simp only[List.length_nil];omega) p hp;exact⟨by omega,by omega⟩
 ·intro p hp;simp at hp
def PV.Pr (PM:Nat→Prop)(x:PV)(W:World):Prop:=Rep.R W PM [.slice x.Aa x.body.length x.ca] x.body∧Rep.R W PM [.slice x.Ab x.notes.length x.cb] x.notes∧SmallP x.plain
theorem PV.pr_keep (PM:Nat→Prop)(x:PV)(A B:World)(h:PV.Pr PM x A)(k:KS PM A B):PV.Pr PM x B:=⟨Rep.keep h.1 k.kept,Rep.keep h.2.1 k.kept,h.2.2⟩
theorem PV.pr_mono (PM PM':Nat→Prop)(x:PV)(A:World)(h:PV.Pr PM x A)(k:∀i,PM i→i<A.heap.size→PM' i):PV.Pr PM' x A:=⟨Rep.mono h.1 k,Rep.mono h.2.1 k,h.2.2⟩
abbrev JT:=List PV→(Nat→Prop)→(Nat→Prop)→World→Prop
structure AI (n₀ Lab:Nat)(w0:World)(J:JT)(num suf:Int)(pre:List PV)(M R:Nat→Prop)(W:World):Prop where
 j:J pre M R W
 old:KS (fun i=>i<n₀) w0 W
 lab:ABox W Lab 40 [.int .i64 num,.int .i64 suf]
 l1:w0.heap.size≤Lab
 lM:¬M Lab
 lR:¬R Lab
 mM:∀i,M i→i<W.heap.size
 mR:∀i,R i→i<W.heap.size
section
variable {n₀ Lab:Nat} {w0 W W':World} {J:JT} {num suf:Int} {pre:List PV} {M R:Nat→Prop}
theorem AI.to (h:AI n₀ Lab w0 J num suf pre M R W)(hJ:∀pre M R A B,J pre M R A→KS (fun i=>i<w0.heap.size∨R i) A B→J pre M R B)(hb:Below W.heap.size W W'):AI n₀ Lab w0 J num suf pre M R W':=
 ⟨hJ _ _ _ _ _ h.j (KS.of_below hb _),h.old.trans (KS.of_below hb _),h.lab.to hb,h.l1,h.lM,h.lR,fun i hi=>Nat.lt_of_lt_of_le (h.mM i hi) hb.size,fun i hi=>Nat.lt_of_lt_of_le (h.mR i hi) hb.size⟩
theorem AI.setNum (h:AI n₀ Lab w0 J num suf pre M R W)(hJ:∀pre M R A B,J pre M R A→KS (fun i=>i<w0.heap.size∨R i) A B→J pre M R B)(hn:n₀≤w0.heap.size)(v:Int):AI n₀ Lab w0 J v suf pre M R (W.setCell ⟨Lab,0,none⟩ (.int .i64 v)):=
 ⟨hJ _ _ _ _ _ h.j (KS.setCell _ _ (fun(e:Lab<w0.heap.size∨R Lab)=>e.elim (fun e=>by have:=h.l1;omega) h.lR)),h.old.trans (KS.setCell _ _ (fun(e:Lab<n₀)=>by have:=h.l1;omega)),by have:=h.lab.set 0 (.int .i64 v);simpa using this,h.l1,h.lM,h.lR,fun i hi=>by have:=h.mM i hi;simpa using this,fun i hi=>by have:=h.mR i hi;simpa using this⟩
theorem AI.setSuf (h:AI n₀ Lab w0 J num suf pre M R W)(hJ:∀pre M R A B,J pre M R A→KS (fun i=>i<w0.heap.size∨R i) A B→J pre M R B)(hn:n₀≤w0.heap.size)(v:Int):AI n₀ Lab w0 J num v pre M R (W.setCell ⟨Lab,1,none⟩ (.int .i64 v)):=
 ⟨hJ _ _ _ _ _ h.j (KS.setCell _ _ (fun(e:Lab<w0.heap.size∨R Lab)=>e.elim (fun e=>by have:=h.l1;omega) h.lR)),h.old.trans (KS.setCell _ _ (fun(e:Lab<n₀)=>by have:=h.l1;omega)),by have:=h.lab.set 1 (.int .i64 v);simpa using this,h.l1,h.lM,h.lR,fun i hi=>by have:=h.mM i hi;simpa using this,fun i hi=>by have:=h.mR i hi;simpa using this⟩
theorem AI.set (h:AI n₀ Lab w0 J num suf pre M R W)(hJ:∀pre M R A B,J pre M R A→KS (fun i=>i<w0.heap.size∨R i) A B→J pre M R B)(hn:n₀≤w0.heap.size){x:Nat}(h1:w0.heap.size≤x)(h2:x≠Lab)(h3:¬R x)(o:Nat)(v:Value):AI n₀ Lab w0 J num suf pre M R (W.setCell ⟨x,o,none⟩ v):=
 ⟨hJ _ _ _ _ _ h.j (KS.setCell _ _ (fun(e:x<w0.heap.size∨R x)=>e.elim (fun e=>by omega) h3)),h.old.trans (KS.setCell _ _ (fun(e:x<n₀)=>by omega)),h.lab.other (Ne.symm h2) o v,h.l1,h.lM,h.lR,fun i hi=>by have:=h.mM i hi;simpa using this,fun i hi=>by have:=h.mR i hi;simpa using this⟩
theorem AI.went (h:AI n₀ Lab w0 J num suf pre M R W){x:PV}{M' R' PM:Nat→Prop}(hj:J (pre++[x]) M' R' W')(hk:KS (fun i=>i<n₀∨(w0.heap.size≤i∧¬M i)) W W')(hM:∀i,M' i→M i∨(W.heap.size≤i∧i<W'.heap.size)) (hR:∀i,R' i→R i∨(PM i∧i<W.heap.size)∨(W.heap.size≤i∧i<W'.heap.size)) (hp:¬PM Lab):AI n₀ Lab w0 J num suf (pre++[x]) M' R' W':=
 ⟨hj,h.old.trans (hk.mono fun i hi _=>.inl hi),(hk.block Lab (.inr ⟨h.l1,h.lM⟩) h.lab.lt).trans h.lab,h.l1,fun e=>(hM _ e).elim h.lM (fun e=>by have:=h.lab.lt;omega),
  fun e=>by
   rcases hR _ e with e|e|e
   ·exact h.lR e
   ·exact hp e.1
   ·have:=h.lab.lt;omega,
  fun i hi=>by
   rcases hM i hi with e|e
   ·exact Nat.lt_of_lt_of_le (h.mM i e) hk.size
   ·exact e.2,
  fun i hi=>by
   rcases hR i hi with e|e|e
   ·exact Nat.lt_of_lt_of_le (h.mR i e) hk.size
   ·exact Nat.lt_of_lt_of_le e.2 hk.size
   ·exact e.2⟩
end
def Qda (f:Nat→Int):Nat→Int
 |0=>0
 |n+1=>if Qda f n≠0 then Qda f n else f n
theorem Qcr {f:Nat→Int}:∀{n:Nat},(∀j,j<n→f j=0)→Qda f n=0
 |0,_=>rfl
 |n+1,h=>by rw[Qda,if_neg (by rw[Qcr fun j hj=>h j (by omega)];simp),h n (by omega)]
theorem Qck {f:Nat→Int}:∀{n:Nat},Qda f n=0→∀j,j<n→f j=0
 |0,_,j,hj=>absurd hj (Nat.not_lt_zero _)
 |n+1,h,j,hj=>by
  rw[Qda] at h;split at h
  ·rename_i h1;exact absurd h h1
  ·rename_i h1;have h2:=Qck (Decidable.not_not.1 h1);rcases Nat.lt_or_ge j n with h3|h3
   ·exact h2 j h3
   ·obtain rfl:j=n:=by omega
    exact h
def verX (m h:Int)(vs:List Int)(q:Nat)(v:Int)(t:TextP):Int:=if ¬(0≤v∧v≤2147483647) then 5 else if v∈vs.take q then 4 else Qa5 m h t.a t.b
def versE (m h:Int)(s:SectP):Int:=Qda (fun q=>verX m h s.vers q (s.vers.getD q 0) (s.texts.getD q ⟨[],[]⟩)) s.vers.length
def openB (l:List SectP)(k:Nat):Bool:=(l.take k).any fun x=> !x.frozen
def secX (m h:Int)(l:List SectP)(k:Nat)(s:SectP):Int:=
 if ¬(0≤s.entry∧s.entry≤65535) then 5 else if Qa6 l s.entry<(k:Int) then 4 else if s.frozen=true∧openB l k=true then 12
 else if s.vers.length=0∨s.vers.length≠s.texts.length∨(1<s.vers.length∧s.frozen=false) then 1 else if 100<s.vers.length then 2 else versE m h s
def secsE (m h:Int)(l:List SectP):Int:=Qda (fun k=>secX m h l k (l.getD k ⟨0,false,[],[]⟩)) l.length
def chkE (m h:Int)(l:List SectP):Int:=
 if ¬(500≤m∧m≤2000) then 5 else if ¬(4≤h∧h≤100) then 5 else if secsE m h l≠0 then secsE m h l else if 16384<(Qae m h l).length then 2 else 0
def UptoS (m h:Int)(l:List SectP)(k:Nat):Prop:=∀j (hj:j<l.length),j<k→secX m h l j l[j]=0
theorem UptoS.all {m h:Int}{l:List SectP}(H:UptoS m h l l.length)(hm:500≤m∧m≤2000)(hh:4≤h∧h≤100):chkE m h l=if 16384<(Qae m h l).length then 2 else 0:=by
 have h1:secsE m h l=0:=Qcr fun j hj=>by
  rw[List.getD_eq_getElem?_getD,qG hj];exact H j hj hj
 unfold chkE;rw[if_neg (not_not_intro hm),if_neg (not_not_intro hh),h1,if_neg (by simp)]
structure OkS (m h:Int)(l:List SectP)(k:Nat)(s:SectP):Prop where
 e:0≤s.entry∧s.entry≤65535
 f:¬Qa6 l s.entry<(k:Int)
 o:¬(s.frozen=true∧openB l k=true)
 n:s.vers.length≠0
 nt:s.vers.length=s.texts.length
 nf:¬(1<s.vers.length∧s.frozen=false)
 lim:¬100<s.vers.length
 v:versE m h s=0
theorem secX_ok {m h:Int}{l:List SectP}{k:Nat}{s:SectP}(H:secX m h l k s=0):OkS m h l k s:=by
 unfold secX at H;split at H
 ·exact absurd H (by decide)
 ·rename_i h1;split at H
  ·exact absurd H (by decide)
  ·rename_i h2;split at H
   ·exact absurd H (by decide)
   ·rename_i h3;split at H
    ·exact absurd H (by decide)
    ·rename_i h4;split at H
     ·exact absurd H (by decide)
     ·rename_i h5;exact⟨Decidable.not_not.1 h1,h2,h3,fun h=>h4 (.inl h),Decidable.not_not.1 fun h=>h4 (.inr (.inl h)),fun h=>h4 (.inr (.inr h)),h5,H⟩
theorem OkS.sec {m h:Int}{l:List SectP}{k:Nat}{s:SectP}(H:OkS m h l k s):secX m h l k s=0:=by
 unfold secX;rw[if_neg (not_not_intro H.e),if_neg H.f,if_neg H.o,if_neg (fun h=>h.elim H.n fun h=>h.elim (fun h=>h H.nt) H.nf),if_neg H.lim,H.v]
def UptoV (m h:Int)(s:SectP)(q:Nat):Prop:=∀j (hj:j<s.vers.length) (ht:j<s.texts.length),j<q→verX m h s.vers j s.vers[j] s.texts[j]=0
theorem UptoV.all {m h:Int}{s:SectP}(hn:s.vers.length=s.texts.length)(H:UptoV m h s s.vers.length):versE m h s=0:=Qcr fun j hj=>by
 have hjt:j<s.texts.length:=by omega
 rw[List.getD_eq_getElem?_getD,qG hj,List.getD_eq_getElem?_getD,qG hjt];exact H j hj hjt hj
end Go.Proofs.YtegaapiocihcpaaGreatDoor
