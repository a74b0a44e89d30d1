/- Texts of CbC. -/
import Derived.Test.YtegaapiocihcpaaGreatDoorVZj7
import Derived.OwnWalk
import Derived.Laws.CopyOwn
set_option maxHeartbeats 16000000
namespace Go.Proofs.YtegaapiocihcpaaGreatDoor
open Go.RowKit
theorem sl_bdS {α:Type}[Rep α]{w:World}{A:Option Addr}{c B:Nat}{l:List α}{S:Nat→Prop}(h:Sl w S A c l)(hS:∀i,S i→B≤i):Sl w S A c (l.map (Bd.mk:α→Bd α B)):=by
 refine⟨by rw[qM];exact h.1,h.2.1,fun h0=>?_⟩;rw[qM] at h0;obtain⟨b,o,rfl,hb,hlt,hx⟩:=h.2.2 h0;refine⟨b,o,rfl,hb,hlt,fun i hi=>?_⟩;rw[qM] at hi;obtain⟨es,hr,hc⟩:=hx i hi;rw[List.getElem_map];exact⟨es,Rep.mono (α:=α) hr (fun i hi _=>⟨hi,hS i hi⟩),hc⟩
theorem Qc7 {α:Type}[Rep α]{w:World}{base B:Nat}{e:TypeId}{v:Value}{l:List α}(h:Own w base e v (l.map (Bd.mk:α→Bd α B)))(hB:B≤base):∃A c,v=.slice A l.length c∧Sl w (fun b=>b<w.heap.size∧B≤b) A c l:=by
 obtain⟨A,c,h1,h2⟩:=bd_sl h hB;have e:(l.map (Bd.mk:α→Bd α B)).map Bd.x=l:=by
  rw[List.map_map];exact(List.map_congr_left (fun _ _=>rfl)).trans (List.map_id l)
 rw[e] at h1 h2;exact⟨A,c,h1,h2⟩
theorem line_infoB (B:Nat):(Tryz.prog.info? 56).map (fun i=>(i.zero,i.size,i.bytes))=some (some (.agg #[.int .i64 0,.int .i64 0,.slice none 0 0,.slice none 0 0]),Rep.size (Bd LineP B),64):=Qda
theorem lns_info (B:Nat):(Tryz.prog.info? 41).map (fun i=>(i.zero,i.size,i.bytes))=some (some (.slice none 0 0),Rep.size (Bd (List LineP) B),24):=by kernel_rfl
theorem partsP_step (m:Int)(a:List (List Word))(k:Nat)(h:k<a.length):Qaz m 0 (a.take (k+1))=Qaz m 0 (a.take k)++[setP a[k] (tot (a.take k):Nat) m]:=by
 rw[qT h,Qb9,Int.zero_add];rfl
theorem partsP_stepF (m:Int)(b:List (List Word))(k:Nat)(h:k<b.length)(f:Int):Qaz m f (b.take (k+1))=Qaz m f (b.take k)++[setP b[k] (f+(tot (b.take k):Nat)) m]:=by
 rw[qT h,Qb9];rfl
theorem QcS {p:List Word}{first m:Int}(hr:Reg (Qah p) m):(setP p first m).length≤p.length:=by
 have h:=endsP_len hr;unfold setP;rw[QbC];unfold Qah at h;rwa [qM] at h
theorem QbM (m:Int):∀(a:List (List Word)) (first:Int),(∀p∈a,Reg (Qah p) m)→(Qaz m first a).flatten.length≤tot a
 |[],_,_=>by simp[Qaz,tot]
 |p::a,first,h=>by
  have h1:=QcS (first:=first) (h p (by simp));have h2:=QbM m a (first+p.length) (fun q hq=>h q (by simp[hq]));rw[Qaz,List.flatten_cons,qA];unfold tot at*;rw[List.flatten_cons,qA];omega
set_option maxRecDepth 100000 in
theorem lines_any (A B:Option Addr)(c d:Nat)(a b:List (List Word))(m:Int)(w:World)(hT:Laid w)(ha:Sl w (fun b=>b<w.heap.size) A c a)(hb:Sl w (fun b=>b<w.heap.size) B d b)(hla:a.length≤1048576)(hlb:b.length≤1048576):
 Calls Tryz.prog 40 #[.agg #[.slice A a.length c,.slice B b.length d],.int .i64 m] w fun e w'=>∃v u,e=.returned (.tuple #[v,u,.int .i64 (QbE a b m)])∧ (QbE a b m=0→Own w' w.heap.size 56 v ((QaX a m).map (Bd.mk:LineP→Bd LineP w.heap.size))∧Own w' w.heap.size 41 u ((Qau a b m).map (Bd.mk:List LineP→Bd (List LineP) w.heap.size)))∧(QbE a b m≠0→v=.slice none 0 0∧u=.slice none 0 0)∧Below w.heap.size w w':=by
 have HX:Hid (ABox (w.alloc (.cells #[.slice A a.length c,.slice B b.length d] 36)) w.heap.size 36 [.slice A a.length c,.slice B b.length d]):=Lh (heap_alloc_new w _);have hba:Below w.heap.size w (w.alloc (.cells #[.slice A a.length c,.slice B b.length d] 36)):=bR.alloc nL _;have HB0:=Lh hba;have HSA:=Lh (ha.to hba);have HSB:=Lh (hb.to hba);have HT:=Lh (hT.to hba);have HSZ:Hid ((w.alloc (.cells #[.slice A a.length c,.slice B b.length d] 36)).heap.size=w.heap.size+1):=Lh (by simp);clear hT ha hb hba;go_enter Tryz.func40,Tryz.ntmps40;go_upto_region 1 with(fail);generalize hw1:World.alloc w _=w1;have hw2:(w.alloc (.cells #[.slice A a.length c,.slice B b.length d] 36))=w1:=hw1;rw[hw2] at HX HB0 HSA HSB HT HSZ;clear hw1 hw2;have HC:=Lh (gcheck_any A B c d a b w1 HT.out HSA.out HSB.out hla hlb);have q0:=HX.out.cell 0 rfl;have q1:=HX.out.cell 1 rfl;obtain⟨ck,hck⟩:∃ck,Qee a b=ck:=⟨_,rfl⟩;rw[hck] at HC;have HCK:=Lh hck;clear hck
 go_upto_region 2 with(first|(go_at_call 38;refine HC.out.mono ?_;rintro e w2 ⟨rfl,hb2⟩)|fail)
 have HX2:=Lh (HX.out.to hb2);have HB2:=Lh (HB0.out.trans (hb2.mono HB0.out.size));have HSA2:=Lh (HSA.out.to hb2);have HSB2:=Lh (HSB.out.to hb2);have HT2:=Lh (HT.out.to hb2);have HZ2:Hid (w.heap.size+1≤w2.heap.size):=Lh (by have:=HSZ.out;have:=hb2.size;omega);clear HC q0 q1 hb2 HX HB0 HSA HSB HT HSZ;clear w1;by_cases h0:ck=0
 ·subst h0;by_cases hm:500≤m∧m≤2000
  ·obtain⟨hm1,hm2⟩:=hm;have HLE:Hid (QbE a b m=0):=Lh (by unfold QbE;rw[HCK.out,if_neg (by simp),if_pos ⟨hm1,hm2⟩]);have HFT:=Lh (chk_zero HCK.out);have hla1:a.length≤100:=HFT.out.la;have hlb1:b.length≤100:=HFT.out.lb;have q0:=HX2.out.cell 0 rfl;have htb:=HFT.out.tot;rw[Qbd] at htb;have HTB:=Lh htb;have HRG:Hid (∀p∈a++b,Reg (Qah p) m):=Lh (fun p hp=>HFT.out.reg hm1 hm2 hp);clear htb;go_wp2_with fail;go_loopw [8,10,29] (fun vb vf vi wr=>∃k:Nat,k≤a.length∧vi=.int .i64 (k:Int)∧vf=.int .i64 ((tot (a.take k):Nat):Int)∧Hid (Own wr w2.heap.size 56 vb ((Qaz m 0 (a.take k)).flatten.map (Bd.mk:LineP→Bd LineP w.heap.size)))∧Hid (Below w2.heap.size w2 wr)) (fun _ _ vi _=>a.length-(intOf vi).toNat);(case atStart=>exact⟨0,Nat.zero_le _,rfl,by simp[tot],Lh (Own.nil _ _ _),Lh bR⟩);case round=>
    obtain⟨k,hk,rfl,rfl,HO,HBw⟩:=hrel;obtain⟨A8,c8,rfl,-⟩:=HO.out.form;have HSAw:=Lh (HSA2.out.to HBw.out);have HTw:=Lh (HT2.out.to HBw.out);have HWL:Hid (w.heap.size≤wr.heap.size):=Lh (by have:=HZ2.out;have:=HBw.out.size;omega);have HBW:Hid (Below w.heap.size w wr):=Lh (HB2.out.trans (HBw.out.mono (by have:=HZ2.out;omega)));by_cases hlt:k<a.length
    ·have hki:(k:Int)<(a.length:Int):=by omega
     have hk0:(0:Int)≤(k:Int):=(by omega);obtain⟨b1,o1,A1,c1,hA1,-,-,ce,hsp⟩:=Qb8 HSAw.out hlt;subst hA1;have hmem:a[k]∈a++b:=List.mem_append_left _ (List.getElem_mem hlt);have HRP:=Lh (HRG.out _ hmem);have HWP:=Lh (HFT.out.w _ hmem);have htk:=tot_take a k hlt;have htl:=tot_le a (k+1);have HST:=Lh (partsP_step m a k hlt);have hpf:=QbM m (a.take k) 0 (fun p hp=>HRG.out p (List.mem_append_left _ (List.mem_of_mem_take hp)));have hset:=QcS (first:=((tot (a.take k):Nat):Int)) HRP.out;obtain⟨p,hp⟩:∃p,a[k]=p:=⟨_,rfl⟩;rw[hp] at ce hsp HRP HWP htk HST hset;have hpl:p.length≤500:=(by rw[←hp];exact(HFT.out.p _ hmem).2);obtain⟨t,ht⟩:∃t,tot (a.take k)=t:=⟨_,rfl⟩;rw[ht] at htk HST hpf hset ⊢;have ht9:t≤100000:=(by have:=HTB.out;omega);have HSET:=Lh (set_any A1 c1 p (t:Int) m wr hsp HTw.out HRP.out (by omega) (by omega) (fun x hx=>by have:=HWP.out x hx;omega));have HTK:=Lh htk;have HPF:=Lh hpf;have HSL:=Lh hset;obtain⟨pl,hpl'⟩:∃pl,setP p (t:Int) m=pl:=⟨_,rfl⟩;rw[hpl'] at HSET HST HSL;obtain⟨fl,hfl⟩:∃fl,(Qaz m 0 (a.take k)).flatten=fl:=⟨_,rfl⟩;have HST2:Hid ((Qaz m 0 (a.take (k+1))).flatten=fl++pl):=Lh (by rw[HST.out,List.flatten_append,hfl];simp);rw[hfl] at HO HPF ⊢;rw[qM] at HO;have HLK:=Lh HO.out.lt;have HFL:Hid (fl.length≤100000):=Lh (Nat.le_trans HPF.out (by omega));have HPL:Hid (pl.length≤500):=Lh (Nat.le_trans HSL.out hpl);clear hsp hmem hp htk htl hpf hset ht hpl' hfl HST HRP HWP HSAw HTw
     go_upto_region 13 with(first|(go_at_call 90;refine HSET.out.mono ?_;rintro e w3 ⟨v3,rfl,ho3,hb3⟩;obtain⟨A3,c3,hv3,hs3⟩:=Qc7 ho3 nL;subst hv3;have HS3:=Lh (sl_bdS (B:=w.heap.size) hs3 (fun i hi=>Nat.le_trans HWL.out hi.2));have HO3:=Lh (HO.out.below hb3);have HB3:=Lh (HBw.out.trans (hb3.mono HBw.out.size));clear ho3 hb3 hs3)|(at_builtin;refine QaC (α:=Bd LineP w.heap.size) _ rfl (.tmp 33) (.tmp 37) 41 rfl w2.heap.size 56 (.agg #[.int .i64 0,.int .i64 0,.slice none 0 0,.slice none 0 0]) 64 Tryz.underlying41 (line_infoB _) rfl (show 0<4 by omega) (.slice A8 fl.length c8) (fl.map (Bd.mk:LineP→Bd LineP w.heap.size)) rfl HO3.out A3 c3 pl.length (pl.map (Bd.mk:LineP→Bd LineP w.heap.size)) rfl (by rw[qM]) (fun b=>b<w3.heap.size∧wr.heap.size≤b) HS3.out (fun i hi _ e=>by have:=(HLK.out i e.symm).2;omega) (by have:=HFL.out;have:=HPL.out;rw[qM];omega) (by have:=HFL.out;have:=HPL.out;rw[qM];omega) HB3.out.size ?_;intro v4 w4 hown4 hg4 hat4;have HB4:=Lh (QaL HB3.out HO3.out HB3.out.size hg4);have HO4:=Lh hown4;clear hown4 hg4 hat4)|fail)
     rw[←List.map_append] at HO4;have hw13:IntKind.i64.wrap ((t:Int)+(p.length:Int))=((tot (a.take (k+1)):Nat):Int):=(by rw[IntWalk.i64_in _ (by omega),HTK.out];omega);go_wp2_with fail;go_roundw;(case rel=>exact⟨k+1,by omega,by go_num,rfl,Lh (by rw[HST2.out];exact HO4.out),HB4⟩);case measure=>(first|(simp[intOf];done)|(simp[intOf];omega))
    ·obtain rfl:k=a.length:=by omega
     have HBO:Hid (Own wr w2.heap.size 56 (.slice A8 ((Qaz m 0 (a.take a.length)).flatten.map (Bd.mk:LineP→Bd LineP w.heap.size)).length c8) ((QaX a m).map (Bd.mk:LineP→Bd LineP w.heap.size))):=Lh (by have h:=HO.out;rw[List.take_length] at h ⊢;exact h);have hta:tot (a.take a.length)=tot a:=(by rw[List.take_length]);generalize ((Qaz m 0 (a.take a.length)).flatten.map (Bd.mk:LineP→Bd LineP w.heap.size)).length=bl at*;rw[hta];have hX1:=(HX2.out.to HBw.out).cell 1 rfl;clear HO hta HSAw;have hbw2:=HBw.out;obtain⟨wo,rfl⟩:∃wo:World,wo=wr:=⟨_,rfl⟩;have HSBo:Hid (Sl wo (fun b=>b<wo.heap.size) B d b):=Lh (HSB2.out.to HBw.out);have HTo:Hid (Laid wo):=HTw;clear hbw2 HBw HTw;go_wp2_with fail;go_loopw [9,10,47] (fun vn vf vi wr=>∃k:Nat,k≤b.length∧vi=.int .i64 (k:Int)∧vf=.int .i64 (((tot a:Nat):Int)+((tot (b.take k):Nat):Int))∧Hid (Own wr wo.heap.size 41 vn ((Qaz m ((tot a:Nat):Int) (b.take k)).map (Bd.mk:List LineP→Bd (List LineP) w.heap.size)))∧Hid (Below wo.heap.size wo wr)) (fun _ _ vi _=>b.length-(intOf vi).toNat);(case atStart=>exact⟨0,Nat.zero_le _,rfl,by simp[tot],Lh (Own.nil _ _ _),Lh bR⟩);case round=>
      obtain⟨k,hk,rfl,rfl,HO,HBv⟩:=hrel;obtain⟨A9,c9,rfl,-⟩:=HO.out.form;have HWL:Hid (w.heap.size≤wr.heap.size):=Lh (by have:=HBW.out.size;have:=HBv.out.size;omega);by_cases hlt:k<b.length
      ·have hki:(k:Int)<(b.length:Int):=by omega
       have hk0:(0:Int)≤(k:Int):=(by omega);obtain⟨b1,o1,A1,c1,hA1,-,-,ce,hsp⟩:=Qb8 (HSBo.out.to HBv.out) hlt;subst hA1;have hmem:b[k]∈a++b:=List.mem_append_right _ (List.getElem_mem hlt);have HRP:=Lh (HRG.out _ hmem);have HWP:=Lh (HFT.out.w _ hmem);have htk:=tot_take b k hlt;have htl:=tot_le b (k+1);have HST:=Lh (partsP_stepF m b k hlt ((tot a:Nat):Int));have hset:=QcS (first:=((tot a:Nat):Int)+((tot (b.take k):Nat):Int)) HRP.out;have HNL:=Lh (Qbi m (b.take k) ((tot a:Nat):Int));obtain⟨p,hp⟩:∃p,b[k]=p:=⟨_,rfl⟩;rw[hp] at ce hsp HRP HWP htk HST hset;have hpl:p.length≤500:=(by rw[←hp];exact(HFT.out.p _ hmem).2);obtain⟨t,ht⟩:∃t:Nat,((tot a:Nat):Int)+((tot (b.take k):Nat):Int)=(t:Int):=⟨tot a+tot (b.take k),by omega⟩;rw[ht] at HST hset ⊢;have ht9:t≤100000:=(by have:=HTB.out;omega);have HSET:=Lh (set_any A1 c1 p (t:Int) m wr hsp (HTo.out.to HBv.out) HRP.out (by omega) (by omega) (fun x hx=>by have:=HWP.out x hx;omega));have HSL:=Lh hset;have HPB:Hid ((t:Int)+(p.length:Int)=((tot a:Nat):Int)+((tot (b.take (k+1)):Nat):Int)):=Lh (by omega);obtain⟨pl,hpl'⟩:∃pl,setP p (t:Int) m=pl:=⟨_,rfl⟩;rw[hpl'] at HSET HST HSL;have HPL:Hid (pl.length≤500):=Lh (Nat.le_trans HSL.out hpl);obtain⟨fl,hfl⟩:∃fl,Qaz m ((tot a:Nat):Int) (b.take k)=fl:=⟨_,rfl⟩;rw[hfl] at HO HNL HST ⊢;rw[qM] at HO;have HFL:Hid (fl.length≤100):=Lh (by have:=HNL.out;rw[qK] at this;omega);have HLK:=Lh HO.out.lt;clear hsp hmem hp htk htl hset hpl' hfl HRP HWP ht
       go_upto_region 19 with(first|(go_at_call 90;refine HSET.out.mono ?_;rintro e w3 ⟨v3,rfl,ho3,hb3⟩;obtain⟨A3,c3,hv3,hs3⟩:=Qc7 ho3 nL;subst hv3;have hbb:=(Below.refl w3.heap.size w3).alloc nL (.cells #[.slice A3 pl.length c3] 41);have HS3:=Lh (hs3.keep (Kept.all hbb) hbb.size);have HO3:=Lh ((HO.out.below hb3).below hbb);have HB3:=Lh (HBv.out.trans ((hb3.trans (hbb.mono hb3.size)).mono HBv.out.size));have HZ3:=Lh hb3.size;clear ho3 hb3 hs3 hbb)|(at_builtin;refine Qav (α:=Bd (List LineP) w.heap.size) _ rfl (.tmp 51) (.tmp 56) 81 rfl wo.heap.size 41 (.slice none 0 0) 24 Tryz.underlying81 (lns_info _) rfl (show 0<1 by omega) (.slice A9 fl.length c9) (fl.map (Bd.mk:List LineP→Bd (List LineP) w.heap.size)) rfl HO3.out w3.heap.size #[.slice A3 pl.length c3] ⟨pl⟩ (0,0) 41 rfl (heap_alloc_new w3 _) ⟨A3,c3,rfl,HS3.out.mono (fun i hi hl=>⟨fun e=>by have:=(HLK.out i e.symm).2;have:=HZ3.out;omega,by have:=HWL.out;omega⟩),by have:=HPL.out;show pl.length<_;omega⟩ (by have:=HFL.out;rw[qM];omega) (by have:=HFL.out;rw[qM];omega) HB3.out.size _ rfl ?_;intro g5 p5 w5 hown5 hg5 hat5 hlt5;have HB4:=Lh (QaL HB3.out HO3.out HB3.out.size hg5);have HO4:=Lh hown5;clear hown5 hg5 hat5 hlt5)|fail)
       have hw19:IntKind.i64.wrap ((t:Int)+(p.length:Int))=((tot a:Nat):Int)+((tot (b.take (k+1)):Nat):Int):=(by rw[IntWalk.i64_in _ (by omega),HPB.out]);rw[qM] at HO4;go_wp2_with fail;go_roundw;(case rel=>exact⟨k+1,by omega,by go_num,rfl,Lh (by rw[HST.out,List.map_append];exact HO4.out),HB4⟩);case measure=>(first|(simp[intOf];done)|(simp[intOf];omega))
      ·obtain rfl:k=b.length:=by omega
       have HNO:Hid (Own wr wo.heap.size 41 (.slice A9 ((Qaz m ((tot a:Nat):Int) (b.take b.length)).map (Bd.mk:List LineP→Bd (List LineP) w.heap.size)).length c9) ((Qau a b m).map (Bd.mk:List LineP→Bd (List LineP) w.heap.size))):=Lh (by have h:=HO.out;rw[List.take_length] at h ⊢;exact h);have HBO2:=Lh (HBO.out.below HBv.out);have HBF:=Lh (HBW.out.trans (HBv.out.mono HBW.out.size));have HW2:Hid (w.heap.size≤w2.heap.size):=Lh (by have:=HZ2.out;omega);have HW3:=Lh HBW.out.size;generalize ((Qaz m ((tot a:Nat):Int) (b.take b.length)).map (Bd.mk:List LineP→Bd (List LineP) w.heap.size)).length=nl at*;clear HO;go_wp2_with fail;go_ret3;exact⟨_,_,by rw[HLE.out];rfl,fun _=>⟨HBO2.out.re HW2.out,HNO.out.re HW3.out⟩,fun h=>absurd HLE.out h,HBF.out⟩
  ·have HLE:Hid (QbE a b m=5):=Lh (by unfold QbE;rw[HCK.out,if_neg (by simp),if_neg hm]);by_cases h5:m<500
   ·go_wp2_with fail;go_ret3;exact⟨.slice none 0 0,.slice none 0 0,by rw[HLE.out];rfl,by rw[HLE.out];exact fun h=>absurd h (by decide),fun _=>⟨rfl,rfl⟩,HB2.out⟩
   ·have h6:2000<m:=by omega
    go_wp2_with fail;go_ret3;exact⟨.slice none 0 0,.slice none 0 0,by rw[HLE.out];rfl,by rw[HLE.out];exact fun h=>absurd h (by decide),fun _=>⟨rfl,rfl⟩,HB2.out⟩
 ·have HLE:Hid (QbE a b m=ck):=Lh (by unfold QbE;rw[HCK.out,if_pos h0]);have h00:(ck==0)=false:=(by rw[beq_eq_false_iff_ne];exact h0);go_wp2_with fail;go_ret3;exact⟨.slice none 0 0,.slice none 0 0,by rw[HLE.out];rfl,by rw[HLE.out];exact fun h=>absurd h h0,fun _=>⟨rfl,rfl⟩,HB2.out⟩
def Qdp (p:Nat→Bool)(l:List (List LineP)):Bool:=l.any fun x=>p x.length
theorem anyLn_take (p:Nat→Bool)(l:List (List LineP))(k:Nat)(h:k<l.length):Qdp p (l.take (k+1))=(Qdp p (l.take k)||p l[k].length):=by
 unfold Qdp;rw[qT h,List.any_append];simp
theorem anyLn_hit (p:Nat→Bool)(l:List (List LineP))(k:Nat)(h:k<l.length)(hp:p l[k].length=true):Qdp p l=true:=List.any_eq_true.2 ⟨_,List.getElem_mem h,hp⟩
def IsIdxL (p:Nat→Bool)(l:List (List LineP))(w:World)(e:Ending)(w':World):Prop:=∃r:Int,e=.returned (.int .i64 r)∧decide (0≤r)=Qdp p l∧w=w'
theorem indexFuncL_any (A:Option Addr)(c n:Nat)(l:List (List LineP))(f:FuncId)(p:Nat→Bool)(w:World)(hl:Sl w (fun b=>b<w.heap.size) A c l)(hn:l.length=n) (hcf:∀(w':World) (args:Array Value),(callFunc f args).run Tryz.prog w'=.ok (.enter f args) w') (hf:∀(A:Option Addr) (n c:Nat) (w':World),Calls Tryz.prog f #[.slice A n c] w' fun e w''=>e=.returned (.bool (p n))∧w'=w''):
 Calls Tryz.prog 224 #[.slice A n c,.func (.func f) #[] #[]] w (IsIdxL p l w):=by
 subst hn;have hlen:l.length≤9223372036854775807:=by have:=hl.1;have:=hl.2.1;unfold maxLen at this;omega
 have Hf:=Lh hf;have Hl:=Lh hl;clear hf hl;go_enter Tryz.func224,Tryz.ntmps224;go_wp2_with fail;go_loopw [5,8] (fun _ i wr=>∃k:Nat,k≤l.length∧i=.int .i64 k∧Hid (Qdp p (l.take k)=false)∧wr=w) (fun _ i _=>l.length-(intOf i).toNat);(case atStart=>exact⟨0,Nat.zero_le _,rfl,Lh (by simp[Qdp]),rfl⟩);case round=>
  obtain⟨k,hk,rfl,hno,rfl⟩:=hrel;by_cases hlt:k<l.length
  ·obtain⟨b,o,A1,c1,rfl,_,hbl,hc,-⟩:=Qb8 Hl.out hlt;have hkl:(k:Int)<(l.length:Int):=(by omega);have hk0:(0:Int)≤(k:Int):=(by omega);have HT:=Lh (anyLn_take p l k hlt);have HH:=Lh (anyLn_hit p l k hlt);generalize l[k]=q at*;go_wp2_with fail;refine(Hf.out _ _ _ _).mono ?_;rintro e w' ⟨rfl,rfl⟩;cases hp:p q.length
   ·have E:=Lh (show Qdp p (l.take (k+1))=false by rw[HT.out,hno.out,hp];rfl);clear hp;go_wp2_with fail;go_roundw;(case rel=>exact⟨k+1,by omega,by go_num,E,by first|trivial|rfl⟩);case measure=>simp[intOf];omega
   ·have E:=Lh (HH.out hp);clear hp;go_wp2_with fail;go_ret;exact⟨k,rfl,by rw[E.out];exact decide_eq_true hk0,rfl⟩
  ·have E:=Lh (show Qdp p l=false by have:=hno.out;rwa [List.take_of_length_le (by omega)] at this);go_wp2_with fail;go_ret;exact⟨-1,rfl,by rw[E.out];rfl,rfl⟩
theorem Qdq (A:Option Addr)(c n:Nat)(l:List (List LineP))(f:FuncId)(p:Nat→Bool)(w:World)(hl:Sl w (fun b=>b<w.heap.size) A c l)(hn:l.length=n) (hcf:∀(w':World) (args:Array Value),(callFunc f args).run Tryz.prog w'=.ok (.enter f args) w') (hf:∀(A:Option Addr) (n c:Nat) (w':World),Calls Tryz.prog f #[.slice A n c] w' fun e w''=>e=.returned (.bool (p n))∧w'=w''):
 Calls Tryz.prog 217 #[.slice A n c,.func (.func f) #[] #[]] w fun e w'=>e=.returned (.bool (Qdp p l))∧w=w':=by
 have Hi:=Lh (indexFuncL_any A c n l f p w hl hn hcf hf);clear hl hf hcf;go_enter Tryz.func217,Tryz.ntmps217;go_wp2_with fail;refine Hi.out.mono ?_;rintro e w' ⟨r,rfl,hr,rfl⟩;have Hr:=Lh hr;clear hr;go_wp2_with fail;go_ret;exact⟨Qat Hr.out,rfl⟩
def noneP (n:Nat):Bool:=decide (n=0)
theorem none_any (A:Option Addr)(n c:Nat)(w:World):Calls Tryz.prog 218 #[.slice A n c] w fun e w'=>e=.returned (.bool (noneP n))∧w=w':=by
 go_enter Tryz.func218,Tryz.ntmps218;go_wp2_with fail;go_ret;refine⟨Qat ?_,rfl⟩;unfold noneP;rw[Bool.eq_iff_iff,beq_iff_eq,decide_eq_true_iff];omega
theorem Qdr {w:World}{S:Nat→Prop}{A:Option Addr}{c:Nat}{l:List LineP}(h:Sl w S A c l){k:Nat}(hk:k<l.length):
 ∃b o Ag cg An cn,A=some ⟨b,o,none⟩∧S b∧b<w.heap.size∧w.cell? ⟨b,o+k*4,none⟩=some (.int .i64 l[k].fr)∧w.cell? ⟨b,o+k*4+1,none⟩=some (.int .i64 l[k].un)∧ w.cell? ⟨b,o+k*4+2,none⟩=some (.slice Ag l[k].gaps.length cg)∧w.cell? ⟨b,o+k*4+3,none⟩=some (.slice An l[k].notes.length cn)∧Sl w S Ag cg l[k].gaps∧Sl w S An cn l[k].notes:=by
 obtain⟨b,o,es,rfl,hb,hlt,⟨va,vb,rfl,⟨Ag,cg,e1,hg,_⟩,⟨An,cn,e2,hn,_⟩⟩,hc⟩:=h.at_ hk;cases e1;cases e2;exact⟨b,o,Ag,cg,An,cn,rfl,hb,hlt,hc 0 _ rfl,hc 1 _ rfl,hc 2 _ rfl,hc 3 _ rfl,hg,hn⟩
theorem Qdf (n:Nat):∀(l l':List Int) (next:Int),Qbz n next (l++l')=(Qbz n next l).bind fun k=>Qbz n k l'
 |[],_,_=>rfl
 |k::ks,l',next=>by
  rw[List.cons_append,Qbz,Qbz];split
  ·rfl
  ·exact Qdf n ks l' _
theorem nextN_step (n:Nat)(l:List Int)(j:Nat)(h:j<l.length)(next:Int):Qbz n next (l.take (j+1))=(Qbz n next (l.take j)).bind fun k=>if l[j]≠k∨(n:Int)≤l[j] then none else some (k+1):=by
 rw[qT h,Qdf];rfl
theorem refs_step (body:List LineP)(k:Nat)(h:k<body.length):(body.take (k+1)).flatMap (·.notes)=(body.take k).flatMap (·.notes)++body[k].notes:=by
 rw[qT h,List.flatMap_append];simp
set_option maxRecDepth 100000 in
theorem pagecheck_any (A B:Option Addr)(c d:Nat)(body:List LineP)(notes:List (List LineP))(h:Int)(w:World)(ha:Sl w (fun b=>b<w.heap.size) A c body)(hb:Sl w (fun b=>b<w.heap.size) B d notes)(hln:notes.length≤1048576):
 Calls Tryz.prog 197 #[.slice A body.length c,.slice B notes.length d,.int .i64 h] w fun e w'=>e=.returned (.int .i64 (Qa8 body notes h))∧Below w.heap.size w w':=by
 have HC:=Lh (Qdq B d notes.length notes 218 noneP w hb rfl (fun _ _=>rfl) (fun A n c w'=>none_any A n c w'))
 have HN:Hid (Qdp noneP notes=notes.any (fun l=>decide (l=[]))):=Lh (by
  unfold Qdp noneP
  congr 1
  funext l
  simp[List.length_eq_zero_iff])
 have HA:=Lh ha;have hbl:body.length≤9223372036854775807:=by have:=ha.1;have:=ha.2.1;unfold maxLen at this;omega
 clear ha hb;by_cases h4:h<4
 ·have HE:Hid (Qa8 body notes h=5):=Lh (by unfold Qa8;rw[if_pos (.inl h4)]);go_enter Tryz.func197,Tryz.ntmps197;go_wp2_with fail;go_ret;exact⟨by rw[HE.out];rfl,Below.refl _ _⟩
 by_cases h5:100<h
 ·have HE:Hid (Qa8 body notes h=5):=Lh (by unfold Qa8;rw[if_pos (.inr h5)]);go_enter Tryz.func197,Tryz.ntmps197;go_wp2_with fail;go_ret;exact⟨by rw[HE.out];rfl,Below.refl _ _⟩
 cases hany:Qdp noneP notes
 ·have HE:Hid (Qa8 body notes h=match Qbz notes.length 0 (body.flatMap (·.notes)) with|none=>12|some k=>if k<notes.length then 3 else 0):=Lh (by
   unfold Qa8
   rw[if_neg (by omega),←HN.out,hany,if_neg (by decide)];rfl)
  rw[hany] at HC;clear hany HN;go_enter Tryz.func197,Tryz.ntmps197;go_wp2_with fail;refine HC.out.mono ?_;rintro e w' ⟨rfl,rfl⟩;clear HC;obtain⟨wo,rfl⟩:∃wo:World,wo=w:=⟨_,rfl⟩;go_wp2_with fail;go_loopw [7,22] (fun vn vi wr=>∃(k:Nat) (nx:Int),k≤body.length∧vi=.int .i64 (k:Int)∧vn=.int .i64 nx∧Hid (Qbz notes.length 0 ((body.take k).flatMap (·.notes))=some nx)∧0≤nx∧nx≤notes.length∧Hid (Below wo.heap.size wo wr)) (fun _ vi _=>body.length-(intOf vi).toNat);(case atStart=>exact⟨0,0,Nat.zero_le _,rfl,rfl,Lh rfl,Int.le_refl _,by omega,Lh bR⟩);case round=>
   obtain⟨k,nx,hk,rfl,rfl,HX,hn0,hn1,HB⟩:=hrel;by_cases hlt:k<body.length
   ·have hkl:(k:Int)<(body.length:Int):=by omega
    have hk0:(0:Int)≤(k:Int):=(by omega);obtain⟨b,o,Ag,cg,An,cn,rfl,-,hbl2,e0,e1,e2,e3,hgS,hnS⟩:=Qdr (HA.out.to HB.out) hlt;have HRS:=Lh (refs_step body k hlt)
    have HNO:Hid (∀j,Qbz notes.length 0 ((body.take k).flatMap (·.notes)++(body[k].notes).take j)=none→Qbz notes.length 0 (body.flatMap (·.notes))=none):=Lh (fun j hj=>by
     have h1:(body.flatMap (·.notes))=((body.take k).flatMap (·.notes)++(body[k].notes).take j)++((body[k].notes).drop j++(body.drop (k+1)).flatMap (·.notes)):=by
      (conv=>lhs;rw[←List.take_append_drop (k+1) body,List.flatMap_append,HRS.out])
      rw[List.append_assoc,List.append_assoc]
      congr 1
      rw[←List.append_assoc,List.take_append_drop]
     rw[h1,Qdf,hj];rfl)
    have hba:Below wr.heap.size wr (wr.alloc (.cells #[.int .i64 body[k].fr,.int .i64 body[k].un,.slice Ag body[k].gaps.length cg,.slice An body[k].notes.length cn] 56)):=bR.alloc nL _;have HB2:=Lh (HB.out.trans (hba.mono HB.out.size));have HNS:=Lh (hnS.to hba);have hnl9:body[k].notes.length≤9223372036854775807:=(by have:=hnS.1;have:=hnS.2.1;unfold maxLen at this;omega);generalize body[k]=x at*;clear hba hgS hnS;go_wp2_with fail;generalize World.alloc wr _=w2 at*;go_loopw [7,29] (fun vn vj wr=>∃(j:Nat) (nx:Int),j≤x.notes.length∧vj=.int .i64 (j:Int)∧vn=.int .i64 nx∧Hid (Qbz notes.length 0 ((body.take k).flatMap (·.notes)++x.notes.take j)=some nx)∧0≤nx∧nx≤notes.length∧wr=w2) (fun _ vj _=>x.notes.length-(intOf vj).toNat);(case atStart=>exact⟨0,nx,Nat.zero_le _,rfl,rfl,Lh (by rw[List.take_zero,List.append_nil];exact HX.out),hn0,hn1,rfl⟩);case round=>
     clear HX hn0 hn1;obtain⟨j,nx,hj,rfl,rfl,HX,hn0,hn1,rfl⟩:=hrel;by_cases hjl:j<x.notes.length
     ·have hjl':(j:Int)<(x.notes.length:Int):=by omega
      have hj0:(0:Int)≤(j:Int):=(by omega);obtain⟨b1,o1,hA1,-,-,hok,ce⟩:=Qcf HNS.out hjl;subst hA1;have HTS:=Lh (nextN_step notes.length ((body.take k).flatMap (·.notes)++x.notes) (((body.take k).flatMap (·.notes)).length+j) (by rw[qA];omega) 0)
      have HT2:Hid (Qbz notes.length 0 ((body.take k).flatMap (·.notes)++x.notes.take (j+1))=if x.notes[j]≠nx∨(notes.length:Int)≤x.notes[j] then none else some (nx+1)):=Lh (by
       have e1:((body.take k).flatMap (·.notes))++x.notes.take (j+1)=((body.take k).flatMap (·.notes)++x.notes.take j)++[x.notes[j]]:=by
        rw[qT hjl,List.append_assoc]
       rw[e1,Qdf,HX.out]
       rfl)
      have HNJ:=Lh (HNO.out (j+1));have HOK:=Lh hok;generalize x.notes[j]=q at*;clear hok HTS;by_cases hq:q=nx
      ·subst hq;by_cases hq2:(notes.length:Int)≤q
       ·have HE2:Hid (Qa8 body notes h=12):=Lh (by rw[HE.out,HNJ.out (by rw[HT2.out,if_pos (.inr hq2)])]);go_wp2_with fail;go_ret;exact⟨by rw[HE2.out];rfl,HB2.out⟩
       ·have HX2:Hid (Qbz notes.length 0 ((body.take k).flatMap (·.notes)++x.notes.take (j+1))=some (q+1)):=Lh (by rw[HT2.out,if_neg (by omega)]);have hq3:q<(notes.length:Int):=(by omega);clear HT2 HNJ;go_wp2_with fail;go_roundw;(case rel=>exact⟨j+1,q+1,by omega,by go_num,by go_num,HX2,by omega,by omega,by first|trivial|rfl⟩);case measure=>(first|(simp[intOf];done)|(simp[intOf];omega))
      ·have HE2:Hid (Qa8 body notes h=12):=Lh (by rw[HE.out,HNJ.out (by rw[HT2.out,if_pos (.inl hq)])]);have hqb:(q==nx)=false:=(by rw[beq_eq_false_iff_ne];exact hq);go_wp2_with fail;go_ret;exact⟨by rw[HE2.out];rfl,HB2.out⟩
     ·have HX2:Hid (Qbz notes.length 0 ((body.take (k+1)).flatMap (·.notes))=some nx):=Lh (by rw[HRS.out];have:=HX.out;rwa [List.take_of_length_le (show x.notes.length≤j by omega)] at this);go_wp2_with fail;go_roundw;(case rel=>exact⟨k+1,nx,by omega,by go_num,rfl,HX2,hn0,hn1,HB2⟩);case measure=>(first|(simp[intOf];done)|(simp[intOf];omega))
   ·have HX2:Hid (Qbz notes.length 0 (body.flatMap (·.notes))=some nx):=Lh (by have:=HX.out;rwa [List.take_of_length_le (by omega)] at this);clear HX;by_cases hnx:nx<(notes.length:Int)
    ·have HE2:Hid (Qa8 body notes h=3):=Lh (by rw[HE.out,HX2.out];exact if_pos hnx);go_wp2_with fail;go_ret;exact⟨by rw[HE2.out];rfl,HB.out⟩
    ·have HE2:Hid (Qa8 body notes h=0):=Lh (by rw[HE.out,HX2.out];exact if_neg hnx);go_wp2_with fail;go_ret;exact⟨by rw[HE2.out];rfl,HB.out⟩
 ·have HE:Hid (Qa8 body notes h=1):=Lh (by unfold Qa8;rw[if_neg (by omega),←HN.out,hany,if_pos rfl]);rw[hany] at HC;clear hany HN;go_enter Tryz.func197,Tryz.ntmps197;go_wp2_with fail;refine HC.out.mono ?_;rintro e w' ⟨rfl,rfl⟩;go_wp2_with fail;go_ret;exact⟨by rw[HE.out];rfl,Below.refl _ _⟩
section
variable {P:Program} {α β:Type} [Rep α] [Rep β]
theorem run_copy_rep (w:World)(dT sT ty e:TypeId)(hu:P.underlying dT=some (.slice e))(hs:(P.info? e).map (·.size)=some (Rep.size α))(g:Nat)(cur:Array Value)(A:Option Addr)(c:Nat)(l:List α) (hl:Sl w (fun b=>b≠g) A c l) (h0:0<l.length) (hg:w.heap[g]? =some (.cells cur e (0,0))) (hcs:cur.size=l.length*Rep.size α) {base:Nat} (hb:base≤g) (hm:l.length≤maxLen):
 ∃w',(Builtin.copy_ #[dT,sT] ty #[.slice (some ⟨g,0,none⟩) l.length l.length,.slice A l.length c]).run P w=.ok (goInt l.length) w'∧Own w' base e (.slice (some ⟨g,0,none⟩) l.length l.length) l∧w.grownBy w' (some g):=by
 obtain⟨b,o,news,rfl,hSb,hlt,hnl,hn1,hnc,hnr⟩:=hl.flat h0;have hfit:0+0+news.length≤cur.size:=by omega
 have hst:=run_storeCells_at P g 0 e news 0 cur w hg (by omega) hn1;have e1:(cur.toList.take (0+0)++news++cur.toList.drop (0+0+news.length)).toArray=news.toArray:=by
  rw[List.drop_of_length_le (by rw[Array.length_toList];omega)];simp
 rw[e1] at hst;have hgr:w.grownBy (w.setRow g news.toArray) (some g):=⟨rfl,rfl,rfl,by simp,fun k _ hk=>setRow_other w g k _ (fun e=>hk (by simp[e]))⟩;refine⟨w.setRow g news.toArray,?_,?_,hgr⟩
 ·cases hq:P.info? e with
  |none=>simp[hq] at hs
  |some i=>
   have hi:i.size=Rep.size α:=(by simpa[hq] using hs);have hf:=run_firstCells_some (P:=P) w i.size l.length ⟨b,o,none⟩ l.length c news (by rw[hi];exact hnl) (fun j u hu=>by rw[Qaw];exact hnc j u hu);simp[Builtin.copy_,run_underlying hu,Builtin.lenOf,sizeOf,typeInfo,hq,hf,hst]
 ·refine⟨news,⟨hnl,.inr ⟨g,l.length,news.toArray,rfl,hb,setRow_heap w g cur _ e _ hg,Nat.le_refl _,hm,by simpa using hnl,by simp only[List.take_of_length_le (show(news.toArray.toList).length≤l.length*Rep.size α by simp[hnl])]⟩⟩,hn1,fun i hi=>?_⟩;refine Rep.mono (Rep.keep (hnr i hi) (Kept.grown hgr (fun i hi=>by simpa using hi))) (fun i hi _=>by simpa[Value.ownBlock] using hi)
theorem Qct {w:World}{ops:Array Oper}{rest:List Oper}{o:Oper}{a:Act}{Q:Exit→Act→World→Prop}(hgd:o.guard=none)(d s:Operand)(dT sT:TypeId) (ho:o.op=.call {callee:=.builtin .copy,args:=#[d,s],argTypes:=#[dT,sT]}) (e:TypeId) (hu:P.underlying dT=some (.slice e)) (hs:(P.info? e).map (·.size)=some (Rep.size α)) (g n:Nat) (cur:Array Value) (A:Option Addr) (c:Nat) (l:List α) (hn:l.length=n) (hd:a.eval d=.slice (some ⟨g,0,none⟩) n n) (hs2:a.eval s=.slice A n c) (hl:Sl w (fun b=>b≠g) A c l) (h0:0<n) (hg:w.heap[g]? =some (.cells cur e (0,0))) (hcs:cur.size=n*Rep.size α) (base:Nat) (hb:base≤g) (hm:n≤maxLen) (h:∀w',Own w' base e (.slice (some ⟨g,0,none⟩) n n) l→w.grownBy w' (some g)→wpList P ops Q rest (a.put o.dst (goInt n)) w'):wpList P ops Q (o::rest) a w:=
 wpList_plain hgd fun _ hK=>by
  subst hn;obtain⟨w',hrun,h2,h3⟩:=run_copy_rep (P:=P) w dT sT o.type e hu hs g cur A c l hl h0 hg hcs hb hm;unfold Oper.wp execOp;simp only[ho,resolve,invoke,builtin,Sem.run_bind,Sem.run_pure,Result.andThen_ok,List.map_toArray,List.map_cons,List.map_nil,hd,hs2,hrun];exact hK _ _ (h w' h2 h3)
theorem Own.setg {w:World}{base:Nat}{e:TypeId}{g n cap:Nat}{l:List α}(h:Own w base e (.slice (some ⟨g,0,none⟩) n cap) l)(k j:Nat)(hk:k<l.length)(hj:j<Rep.size α)(u:Value)(hu:u.oneCell'=true)(d':α) (hd:∀es,Rep.R w (fun b=>b≠g) es l[k]→Rep.R w (fun b=>b≠g) (es.set j u) d') {o:Nat} (ho:o=k*Rep.size α+j):
 Own (w.setCell ⟨g,o,none⟩ u) base e (.slice (some ⟨g,0,none⟩) n cap) (l.set k d')∧w.grownBy (w.setCell ⟨g,o,none⟩ u) (some g):=by
 subst ho;obtain⟨xs,hx,ho1,hr⟩:=h;obtain rfl:n=l.length:=by
  rcases hx.2 with⟨h1,_⟩|⟨g',cap',cur,h1,_⟩
  ·cases h1
  ·cases h1;rfl
 have hst:=hx.stored (k*Rep.size α+j) u;have hxl:=hx.1;have hkk:(k+1)*Rep.size α≤xs.length:=by rw[hxl];exact Nat.mul_le_mul_right _ hk
 rw[Nat.add_mul,Nat.one_mul] at hkk
 have eS:(fun b=>some b≠(Value.slice (some ⟨g,0,none⟩) l.length cap).ownBlock)=(fun b=>b≠g):=by
  funext b;simp[Value.ownBlock]
 rw[eS] at hr;have kp:Kept (fun b=>b≠g) w (w.setCell ⟨g,k*Rep.size α+j,none⟩ u):=Kept.grown hst.2 (fun i hi=>by simpa using hi);refine⟨⟨xs.set (k*Rep.size α+j) u,by rw[List.length_set];exact hst.1,?_,fun i hi=>?_⟩,hst.2⟩
 ·intro y hy;rcases List.mem_or_eq_of_mem_set hy with h|h
  ·exact ho1 y h
  ·rw[h];exact hu
 ·rw[eS];rw[List.length_set] at hi;rw[List.drop_set,List.getElem_set];by_cases hik:k=i
  ·subst hik;rw[if_neg (by omega),if_pos rfl,Nat.add_sub_cancel_left,List.take_set];exact Rep.keep (hd _ (hr k hi)) kp
  ·rw[if_neg hik];by_cases hlt:k<i
   ·have:(k+1)*Rep.size α≤i*Rep.size α:=Nat.mul_le_mul_right _ hlt;rw[Nat.add_mul,Nat.one_mul] at this;rw[if_pos (by omega)];exact Rep.keep (hr i hi) kp
   ·have:(i+1)*Rep.size α≤k*Rep.size α:=Nat.mul_le_mul_right _ (by omega:i+1≤k);rw[Nat.add_mul,Nat.one_mul] at this;rw[if_neg (by omega),List.take_set,List.set_eq_of_length_le (by rw[qK];omega)];exact Rep.keep (hr i hi) kp
theorem Own.conv {w:World}{base:Nat}{e:TypeId}{v:Value}{l:List β}(h:Own w base e v l)(l':List α)(hl:l'.length=l.length)(hsz:Rep.size α=Rep.size β) (hr:∀i (h1:i<l.length) (h2:i<l'.length) es,Rep.R w (fun b=>some b≠v.ownBlock) es l[i]→Rep.R w (fun b=>some b≠v.ownBlock) es l'[i]):Own w base e v l':=by
 obtain⟨xs,hx,ho,hq⟩:=h;refine⟨xs,by rw[hl,hsz];exact hx,ho,fun i hi=>?_⟩;rw[hsz];exact hr i (by omega) hi _ (hq i (by omega))
end
structure LC where
 fr:Int
 un:Int
 gv:Value
 nv:Value
instance:Rep LC where
 size:=4
 R _ _ cs x:=cs=[.int .i64 x.fr,.int .i64 x.un,x.gv,x.nv]∧x.gv.oneCell'=true∧x.nv.oneCell'=true
 len:=by rintro w S cs s ⟨rfl,_⟩;rfl
 one:=by
  rintro w S cs s ⟨rfl,h1,h2⟩ u hu;simp at hu;rcases hu with rfl|rfl|rfl|rfl
  ·rfl
  ·rfl
  ·exact h1
  ·exact h2
 keep:=by rintro w w' S cs s h _;exact h
 mono:=by rintro w S S' cs s h _;exact h
theorem Qdy (A:Option Addr)(c n:Nat)(l:List Int)(w:World)(hl:Sl w (fun b=>b<w.heap.size) A c l)(hn:l.length=n)(hsz:n≤1073741824):
 Calls Tryz.prog 137 #[.slice A n c] w fun e w'=>∃v,e=.returned v∧Own w' w.heap.size 3 v l∧Below w.heap.size w w':=by
 have hq:=fun w'=>Lib.run_eql_slice_nil (P:=Tryz.prog) w' 22 3 A n c 0 0 Tryz.underlying22
 cases A with
 |none=>
  have hl0:l=[]:=by
   by_cases h0:0<l.length
   ·obtain⟨b,o,e,_⟩:=hl.2.2 h0;cases e
   ·exact List.eq_nil_of_length_eq_zero (by omega)
  subst hl0;simp only[Option.isNone_none] at hq;go_enter Tryz.func137,Tryz.ntmps137;go_wp2_with fail;go_ret;exact⟨_,rfl,Own.nil _ _ _,Below.refl _ _⟩
 |some a=>
  simp only[Option.isNone_some] at hq;go_enter Tryz.func137,Tryz.ntmps137;go_wp2_with (at_builtin;refine QaC (α:=Int) _ rfl (.tmp 5) (.tmp 6) 22 rfl w.heap.size 3 (.int .i64 0) 8 Tryz.underlying22 Qbf rfl (by decide) (.slice (some ⟨w.heap.size,0,none⟩) 0 0) [] rfl (Own.made w _ _ nL) (some a) c n l rfl hn (fun b=>b<w.heap.size) (hl.keep (Kept.all (bR.alloc nL _)) (by simp)) (by intro i (hi:i<w.heap.size) _ e;simp[Value.ownBlock] at e;omega) (by simp;omega) (by simp;omega) (by simp) ?_;intro v2 w2 hown2 hg2 _);go_ret;exact⟨_,rfl,hown2,QaL (bR.alloc nL _) (Own.made (α:=Int) w _ _ nL) (by simp) hg2⟩
def Qb0 (l:List LineP):Prop:=∀x∈l,x.gaps.length≤100000∧x.notes.length≤100000
theorem Own.lc {w:World}{base:Nat}{e:TypeId}{v:Value}{l:List LineP}(h:Own w base e v l):
 ∃rows:List LC,rows.length=l.length∧Own w base e v rows∧∀i (h1:i<rows.length) (h2:i<l.length),rows[i].fr=l[i].fr∧rows[i].un=l[i].un:=by
 obtain⟨xs,hx,ho,hr⟩:=id h
 have key:∀n,n≤l.length→∃rows:List LC,rows.length=n∧∀i (h1:i<rows.length) (h2:i<l.length),rows[i].fr=l[i].fr∧rows[i].un=l[i].un∧Rep.R w (fun b=>some b≠v.ownBlock) ((xs.drop (i*4)).take 4) rows[i]:=by
  intro n;induction n with
  |zero=>exact fun _=>⟨[],rfl,fun i h=>absurd h (Nat.not_lt_zero _)⟩
  |succ n ih=>
   intro hn;obtain⟨rows,h1,h2⟩:=ih (by omega);have hrn:=hr n hn;have hone:=Rep.one hrn;obtain⟨va,vb,e1,-,-⟩:=hrn;refine⟨rows++[⟨l[n].fr,l[n].un,va,vb⟩],by rw[qA,h1];rfl,fun i h3 h4=>?_⟩;by_cases hi:i<rows.length
   ·rw[List.getElem_append_left hi];exact h2 i hi h4
   ·obtain rfl:i=n:=by rw[qA,List.length_singleton] at h3;omega
    have e2:(rows++[(⟨l[i].fr,l[i].un,va,vb⟩:LC)])[i]=⟨l[i].fr,l[i].un,va,vb⟩:=(by rw[List.getElem_append_right (by omega)];simp[h1]);rw[e2];refine⟨rfl,rfl,e1,?_,?_⟩
    ·exact hone va (by rw[e1];simp)
    ·exact hone vb (by rw[e1];simp)
 obtain⟨rows,h1,h2⟩:=key l.length nL;exact⟨rows,h1,⟨xs,by rw[h1];exact hx,ho,fun i hi=>(h2 i hi (by omega)).2.2⟩,fun i hi1 hi2=>⟨(h2 i hi1 hi2).1,(h2 i hi1 hi2).2.1⟩⟩
structure CL (W:World)(base g:Nat)(rows:List LC)(l:List LineP)(k:Nat):Prop where
 own:Own W base 56 (.slice (some ⟨g,0,none⟩) l.length l.length) rows
 len:rows.length=l.length
 f:∀i (h1:i<rows.length) (h2:i<l.length),rows[i].fr=l[i].fr∧rows[i].un=l[i].un∧(i<k→Rep.R W (fun b=>base≤b∧b≠g) [rows[i].gv] l[i].gaps∧Rep.R W (fun b=>base≤b∧b≠g) [rows[i].nv] l[i].notes)
section
variable {W W':World} {base g:Nat} {rows:List LC} {l:List LineP} {k:Nat}
theorem CL.to (h:CL W base g rows l k)(hb:Below W.heap.size W W'):CL W' base g rows l k:=
 ⟨h.own.below hb,h.len,fun i h1 h2=>⟨(h.f i h1 h2).1,(h.f i h1 h2).2.1,fun hk=>⟨Rep.keep ((h.f i h1 h2).2.2 hk).1 (Kept.all hb),Rep.keep ((h.f i h1 h2).2.2 hk).2 (Kept.all hb)⟩⟩⟩
theorem CL.cells (h:CL W base g rows l k){i:Nat}(hi:i<l.length)(j:Nat)(hj:j<4):∃u,W.cell? ⟨g,i*4+j,none⟩=some u∧W.frozen? ⟨g,i*4+j,none⟩=false:=by
 obtain⟨g',cap,es,e1,-,-,-,hr,hc,hf⟩:=h.own.at_ (k:=i) (by rw[h.len];exact hi);injection e1 with q1 _ _
 injection q1 with q1
 injection q1 with q1 _ _
 subst q1;have hl:es.length=4:=Rep.len hr;exact⟨es[j],hc j _ (qG (by omega)),hf _⟩
theorem CL.set (h:CL W base g rows l k)(hk:k<l.length){v1 v2:Value}(h1:Rep.R W (fun b=>base≤b∧b≠g) [v1] l[k].gaps)(h2:Rep.R W (fun b=>base≤b∧b≠g) [v2] l[k].notes):
 ∃rows',CL ((W.setCell ⟨g,k*4+2,none⟩ v1).setCell ⟨g,k*4+3,none⟩ v2) base g rows' l (k+1):=by
 have hkr:k<rows.length:=by rw[h.len];exact hk
 have o1:=Rep.one h1 v1 (by simp);have o2:=Rep.one h2 v2 (by simp)
 obtain⟨a1,b1⟩:=h.own.setg k 2 hkr (show 2<4 by omega) v1 o1 {rows[k] with gv:=v1} (fun es he=>by
  obtain⟨rfl,q1,q2⟩:=he
  exact⟨rfl,o1,q2⟩) (o:=k*4+2) rfl
 have hkr2:k<(rows.set k {rows[k] with gv:=v1}).length:=by rw[List.length_set];exact hkr
 obtain⟨a2,b2⟩:=a1.setg k 3 hkr2 (show 3<4 by omega) v2 o2 {rows[k] with gv:=v1,nv:=v2} (fun es he=>by
  rw[List.getElem_set_self] at he
  obtain⟨rfl,q1,q2⟩:=he
  exact⟨rfl,o1,o2⟩) (o:=k*4+3) rfl
 have b3:=QdK b1 b2;have kp:Kept (fun b=>base≤b∧b≠g) W ((W.setCell ⟨g,k*4+2,none⟩ v1).setCell ⟨g,k*4+3,none⟩ v2):=Kept.grown b3 (fun i hi=>by simpa using hi.2);refine⟨_,a2,by rw[List.length_set,List.length_set];exact h.len,fun i h3 h4=>?_⟩;have h5:i<rows.length:=by rw[h.len];exact h4
 by_cases hik:k=i
 ·subst hik;rw[List.getElem_set_self];exact⟨(h.f k h5 h4).1,(h.f k h5 h4).2.1,fun _=>⟨Rep.keep h1 kp,Rep.keep h2 kp⟩⟩
 ·rw[List.getElem_set_ne hik,List.getElem_set_ne hik];have:=h.f i h5 h4;exact⟨this.1,this.2.1,fun hk2=>⟨Rep.keep (this.2.2 (by omega)).1 kp,Rep.keep (this.2.2 (by omega)).2 kp⟩⟩
theorem CL.done (h:CL W base g rows l l.length):Own W base 56 (.slice (some ⟨g,0,none⟩) l.length l.length) (l.map (Bd.mk:LineP→Bd LineP base)):=by
 have h1:=h.own.conv (α:=Bd LineP base) (l.map Bd.mk) (by rw[qM,h.len]) rfl (fun i h1 h2 es he=>by
  have h3:i<l.length:=(by rw[←h.len];exact h1)
  obtain⟨rfl,-,-⟩:=he
  obtain⟨e1,e2,e3⟩:=h.f i h1 h3
  obtain⟨e4,e5⟩:=e3 h3
  rw[List.getElem_map,e1,e2]
  refine⟨_,_,rfl,Rep.mono e4 (fun b hb _=>⟨?_,hb.1⟩),Rep.mono e5 (fun b hb _=>⟨?_,hb.1⟩)⟩
  ·simpa[Value.ownBlock] using hb.2
  ·simpa[Value.ownBlock] using hb.2)
 exact h1
end
set_option maxRecDepth 100000 in
theorem pclone_any (A:Option Addr)(c n:Nat)(l:List LineP)(w:World)(hl:Sl w (fun b=>b<w.heap.size) A c l)(hn:l.length=n)(hsz:n≤1048576)(hsm:Qb0 l):
 Calls Tryz.prog 200 #[.slice A n c] w fun e w'=>∃v,e=.returned v∧Own w' w.heap.size 56 v (l.map (Bd.mk:LineP→Bd LineP w.heap.size))∧Below w.heap.size w w':=by
 subst hn;by_cases h0:l.length=0
 ·obtain rfl:l=[]:=List.eq_nil_of_length_eq_zero h0;clear hsm hsz hl;go_enter Tryz.func200,Tryz.ntmps200;go_wp2_with fail;go_ret;exact⟨_,rfl,Own.nil _ _ _,Below.refl _ _⟩
 have HSL:=Lh hl;have HSMA:=Lh hsm;have h1:((l.length:Int)==0)=false:=by rw[beq_eq_false_iff_ne];omega
 have HN0:=Lh h0;clear hl hsm h0;go_enter Tryz.func200,Tryz.ntmps200;have hba:Below w.heap.size w (w.alloc (.cells (madeCells #[.int .i64 0,.int .i64 0,.slice none 0 0,.slice none 0 0] (l.length*4)) 56)):=bR.alloc nL _;have HBA:=Lh hba;have HSL1:Hid (Sl (w.alloc (.cells (madeCells #[.int .i64 0,.int .i64 0,.slice none 0 0,.slice none 0 0] (l.length*4)) 56)) (fun b=>b≠w.heap.size) A c l):=Lh ((HSL.out.keep (Kept.all hba) hba.size).mono (fun i hi _=>Nat.ne_of_lt hi));clear hba
 go_upto_region 5 with(first|(refine Qbq rfl 41 (.tmp 9) (.tmp 9) rfl 56 (.agg #[.int .i64 0,.int .i64 0,.slice none 0 0,.slice none 0 0]) 4 64 Tryz.underlying41 Qda l.length rfl rfl (by omega) (by omega) ?_)|(refine Qct (α:=LineP) rfl (.tmp 11) (.tmp 12) 41 41 rfl 56 Tryz.underlying41 (by kernel_rfl) w.heap.size l.length _ A c l rfl rfl rfl HSL1.out (by have:=HN0.out;omega) (heap_alloc_new w _) (size_madeCells _ _) w.heap.size nL (by unfold maxLen;omega) ?_;intro w2 ho2 hg2)|fail)
 have HB2:Hid (Below w.heap.size w w2):=Lh (HBA.out.grown hg2 (by simp) (fun k hk=>by cases hk;exact Nat.le_refl _));obtain⟨rows,hrl,hro,hrf⟩:=ho2.lc;have HC0:Hid (CL w2 w.heap.size w.heap.size rows l 0):=Lh ⟨hro,hrl,fun i h1 h2=>⟨(hrf i h1 h2).1,(hrf i h1 h2).2,fun h=>absurd h (Nat.not_lt_zero _)⟩⟩;have HGL:Hid (w.heap.size<w2.heap.size):=Lh (by have:=hg2.size;simp at this;omega);clear hrl hro hrf ho2 hg2 HSL1 HBA;obtain⟨g,hg⟩:∃g,w.heap.size=g:=⟨_,rfl⟩;have HGE:=Lh hg;rw[hg] at HC0 HB2 HGL HSL ⊢;clear hg;go_wp2_with fail;go_loopw [16] (fun vi wr=>∃(k:Nat) (rows:List LC),k≤l.length∧vi=.int .i64 (k:Int)∧Hid (CL wr g g rows l k)∧Hid (Below g w wr∧g<wr.heap.size)) (fun vi _=>l.length-(intOf vi).toNat);(case atStart=>exact⟨0,rows,Nat.zero_le _,rfl,HC0,Lh ⟨HB2.out,HGL.out⟩⟩);case round=>
  clear HC0 HB2 HGL;clear rows w2;obtain⟨k,rows,hk,rfl,HCL,HB⟩:=hrel;by_cases hlt:k<l.length
  ·have hkl:(k:Int)<(l.length:Int):=by omega
   have hk0:(0:Int)≤(k:Int):=(by omega);have HSLw:Hid (Sl wr (fun b=>b<g) A c l):=Lh (HSL.out.keep (Kept.below HB.out.1 (fun i hi=>hi)) HB.out.1.size);obtain⟨b,o,Ag,cg,An,cn,hA,hbg,hbl,-,-,e2,e3,hgS,hnS⟩:=Qdr HSLw.out hlt;subst hA;have HG0:Hid (Sl wr (fun b=>b<wr.heap.size) Ag cg l[k].gaps):=Lh (hgS.mono (fun i hi hl=>hl));have HN0:Hid (Sl wr (fun b=>b<wr.heap.size) An cn l[k].notes):=Lh (hnS.mono (fun i hi hl=>hl));have HSM:=Lh (HSMA.out l[k] (List.getElem_mem hlt));have SP:∀W,Below wr.heap.size wr W→W.cell? ⟨b,o+k*4+2,none⟩=some (.slice Ag l[k].gaps.length cg)∧W.cell? ⟨b,o+k*4+3,none⟩=some (.slice An l[k].notes.length cn):=fun W hW=>⟨(hW.cell (p:=⟨b,_,none⟩) hbl).trans e2,(hW.cell (p:=⟨b,_,none⟩) hbl).trans e3⟩
   have SQ:∀W v1 o1,Below wr.heap.size wr W→(W.setCell ⟨g,o1,none⟩ v1).cell? ⟨b,o+k*4+2,none⟩=some (.slice Ag l[k].gaps.length cg)∧(W.setCell ⟨g,o1,none⟩ v1).cell? ⟨b,o+k*4+3,none⟩=some (.slice An l[k].notes.length cn):=fun W v1 o1 hW=>by
    have h:=SP W hW;have hne:b≠g:=Nat.ne_of_lt hbg;exact⟨(World.cell?_of_block (a:=⟨b,_,none⟩) (Qac W g o1 v1 hne)).trans h.1,(World.cell?_of_block (a:=⟨b,_,none⟩) (Qac W g o1 v1 hne)).trans h.2⟩
   have SQ2:∀W v1 o1 v2 o2,Below wr.heap.size wr W→((W.setCell ⟨g,o1,none⟩ v1).setCell ⟨g,o2,none⟩ v2).cell? ⟨b,o+k*4+2,none⟩=some (.slice Ag l[k].gaps.length cg)∧((W.setCell ⟨g,o1,none⟩ v1).setCell ⟨g,o2,none⟩ v2).cell? ⟨b,o+k*4+3,none⟩=some (.slice An l[k].notes.length cn):=fun W v1 o1 v2 o2 hW=>by
    have h:=SQ W v1 o1 hW;have hne:b≠g:=Nat.ne_of_lt hbg;exact⟨(World.cell?_of_block (a:=⟨b,_,none⟩) (Qac _ g o2 v2 hne)).trans h.1,(World.cell?_of_block (a:=⟨b,_,none⟩) (Qac _ g o2 v2 hne)).trans h.2⟩
   have HSP:=Lh SP;have HSQ:=Lh SQ;have HSQ2:=Lh SQ2;have HXS:Hid (∃x,x=l[k]):=Lh ⟨_,rfl⟩;obtain⟨x,hx⟩:∃x,l[k]=x:=⟨_,rfl⟩;rw[hx] at HG0 HN0 HSM HSP HSQ HSQ2;have HX:=Lh hx;have hlc:l.length≤c:=HSLw.out.1;clear SP SQ SQ2 hgS hnS e2 e3 hx HXS;go_upto_region 8 with(fail);refine Qaj (fun w'=>w'.cell? ⟨b,o+k*4+2,none⟩=some (.slice Ag x.gaps.length cg)∧w'.cell? ⟨b,o+k*4+3,none⟩=some (.slice An x.notes.length cn)) (fun _=>true) (by kernel_rfl) ?_;have hb0:Hid (Below wr.heap.size wr wr.drew):=Lh bR.drew;generalize wr.drew=W0 at*;refine tE 0 ⟨some 19,Op.move (.tmp 3),41,_,_,_⟩ ?_ rfl ?zq0 ((HSP.out _ hb0.out)) ?zq1;(case zq0=>intro _ s;clear s;go_simp;(try with_reducible rfl));(all_goals try go_frame);refine tE 1 ⟨some 20,Op.move (.tmp 4),3,_,_,_⟩ ?_ rfl ?zq2 ((HSP.out _ hb0.out)) ?zq3;(case zq2=>intro _ s;clear s;go_simp;(try with_reducible rfl));(all_goals try go_frame);refine tE 2 ⟨some 21,Op.move (.tmp 3),41,_,_,_⟩ ?_ rfl ?zq4 ((HSP.out _ hb0.out)) ?zq5;(case zq4=>intro _ s;clear s;go_simp;(try with_reducible rfl));(all_goals try go_frame);refine tE 3 ⟨some 22,Op.move (.tmp 4),3,_,_,_⟩ ?_ rfl ?zq6 ((HSP.out _ hb0.out)) ?zq7;(case zq6=>intro _ s;clear s;go_simp;(try with_reducible rfl));(all_goals try go_frame);refine tE 4 ⟨some 23,Op.move (.tmp 0),41,_,_,_⟩ ?_ rfl ?zq8 ((HSP.out _ hb0.out)) ?zq9;(case zq8=>intro _ s;clear s;go_simp;(try with_reducible rfl));(all_goals try go_frame);refine tE 5 ⟨some 24,Op.move (.tmp 4),3,_,_,_⟩ ?_ rfl ?zq10 ((HSP.out _ hb0.out)) ?zq11;(case zq10=>intro _ s;clear s;go_simp;(try with_reducible rfl));(all_goals try go_frame);refine tE 6 ⟨some 25,Op.indexAddr 41 (.tmp 23) (.tmp 24),0,_,_,_⟩ ?_ rfl ?zq12 ((HSP.out _ hb0.out)) ?zq13;(case zq12=>intro _ s;clear s;go_simp;(try with_reducible rfl));(all_goals try go_frame);refine tE 7 ⟨some 26,Op.fieldAddr 56 (.tmp 25) 2,0,_,_,_⟩ ?_ rfl ?zq14 ((HSP.out _ hb0.out)) ?zq15;(case zq14=>intro _ s;clear s;go_simp;(try with_reducible rfl));(all_goals try go_frame);refine tE 8 ⟨some 27,Op.load 22 (.tmp 26),22,_,_,_⟩ ?_ rfl ?zq16 ((HSP.out _ hb0.out)) ?zq17;(case zq16=>intro wS hSw;(have hq:=hSw.1);clear hSw;go_simp;(try with_reducible rfl));(all_goals try go_frame);refine tE 10 ⟨some 29,Op.move (.tmp 0),41,_,_,_⟩ ?_ rfl ?zq18 ((HSP.out _ hb0.out)) ?zq19;(case zq18=>intro _ s;clear s;go_simp;(try with_reducible rfl));(all_goals try go_frame);refine tE 11 ⟨some 30,Op.move (.tmp 4),3,_,_,_⟩ ?_ rfl ?zq20 ((HSP.out _ hb0.out)) ?zq21;(case zq20=>intro _ s;clear s;go_simp;(try with_reducible rfl));(all_goals try go_frame);refine tE 12 ⟨some 31,Op.indexAddr 41 (.tmp 29) (.tmp 30),0,_,_,_⟩ ?_ rfl ?zq22 ((HSP.out _ hb0.out)) ?zq23;(case zq22=>intro _ s;clear s;go_simp;(try with_reducible rfl));(all_goals try go_frame);refine tE 13 ⟨some 32,Op.fieldAddr 56 (.tmp 31) 3,0,_,_,_⟩ ?_ rfl ?zq24 ((HSP.out _ hb0.out)) ?zq25;(case zq24=>intro _ s;clear s;go_simp;(try with_reducible rfl));(all_goals try go_frame);refine tE 14 ⟨some 33,Op.load 22 (.tmp 32),22,_,_,_⟩ ?_ rfl ?zq26 ((HSP.out _ hb0.out)) ?zq27;(case zq26=>intro wS hSw;(have hq:=hSw.2);clear hSw;go_simp;(try with_reducible rfl));(all_goals try go_frame);refine tD 9 ⟨some 28,Op.call {callee:=Callee.value (Operand.func 137),args:=#[Operand.tmp 27],argTypes:=#[22]},22,_,_,_⟩ rfl fun K hK=>?_
   go_simp;go_at_call 137;refine(Qdy Ag cg x.gaps.length x.gaps W0 (HG0.out.to hb0.out) rfl (by have:=HSM.out.1;omega)).mono ?_;rintro e W1 ⟨v1,rfl,ho1,hb1⟩;obtain⟨A1,c1,rfl,-⟩:=ho1.form;have HR1:Hid (Rep.R W1 (fun b=>g≤b∧b≠g) [.slice A1 x.gaps.length c1] x.gaps):=Lh (QcC ho1 rfl (fun b hb=>by have:=HB.out.2;have:=hb0.out.size;omega));have hbb:=Lh (hb0.out.trans (hb1.mono hb0.out.size));have HZ1:=Lh hb1.size;clear ho1 hb1;go_simp;refine hK _ _ (fun _=>?_) ?_
   ·exact(HSP.out _ hbb.out)
   clear hK K;(try go_frame);refine tD 15 ⟨some 34,Op.call {callee:=Callee.value (Operand.func 137),args:=#[Operand.tmp 33],argTypes:=#[22]},22,_,_,_⟩ rfl fun K hK=>?_
   go_simp;go_at_call 137;refine(Qdy An cn x.notes.length x.notes W1 (HN0.out.to hbb.out) rfl (by have:=HSM.out.2;omega)).mono ?_;rintro e W2 ⟨v2,rfl,ho2,hb2⟩;obtain⟨A2,c2,rfl,-⟩:=ho2.form;have HR2:Hid (Rep.R W2 (fun b=>g≤b∧b≠g) [.slice A2 x.notes.length c2] x.notes):=Lh (QcC ho2 rfl (fun b hb=>by have:=HB.out.2;have:=hbb.out.size;omega));have HR1b:=Lh (Rep.keep HR1.out (Kept.all hb2));have hbz:=Lh (hbb.out.trans (hb2.mono hbb.out.size));have HZ2:=Lh hb2.size;clear ho2 hb2 HR1;go_simp;refine hK _ _ (fun _=>?_) ?_
   ·exact(HSP.out _ hbz.out)
   clear hK K;(try go_frame);refine tE 16 ⟨some 35,Op.indexAddr 41 (.tmp 19) (.tmp 20),0,_,_,_⟩ ?_ rfl ?zq28 ((HSP.out _ hbz.out)) ?zq29;(case zq28=>intro _ s;clear s;go_simp;(try with_reducible rfl));(all_goals try go_frame);refine tE 17 ⟨some 36,Op.fieldAddr 56 (.tmp 35) 2,0,_,_,_⟩ ?_ rfl ?zq30 ((HSP.out _ hbz.out)) ?zq31;(case zq30=>intro _ s;clear s;go_simp;(try with_reducible rfl));(all_goals try go_frame);refine tD 18 ⟨none,Op.store 22 (.tmp 36) (.tmp 28),0,_,_,_⟩ rfl fun K hK=>?_
   have HCLz:=Lh (HCL.out.to hbz.out);obtain⟨u1,hu1,hf1⟩:=HCLz.out.cells hlt 2 (by omega);go_simp;refine hK _ _ (fun _=>?_) ?_
   ·exact(HSQ.out _ _ _ hbz.out)
   clear hK K;(try simp only[Act.put]);refine tE 19 ⟨some 37,Op.indexAddr 41 (.tmp 21) (.tmp 22),0,_,_,_⟩ ?_ rfl ?zq32 ((HSQ.out _ _ _ hbz.out)) ?zq33;(case zq32=>intro _ s;clear s;go_simp;(try with_reducible rfl));(all_goals try go_frame);refine tE 20 ⟨some 38,Op.fieldAddr 56 (.tmp 37) 3,0,_,_,_⟩ ?_ rfl ?zq34 ((HSQ.out _ _ _ hbz.out)) ?zq35;(case zq34=>intro _ s;clear s;go_simp;(try with_reducible rfl));(all_goals try go_frame);refine tD 21 ⟨none,Op.store 22 (.tmp 38) (.tmp 34),0,_,_,_⟩ rfl fun K hK=>?_
   obtain⟨u2,hu2,hf2⟩:=HCLz.out.cells hlt 3 (by omega);have hu3:(W2.setCell ⟨g,k*4+2,none⟩ (.slice A1 x.gaps.length c1)).cell? ⟨g,k*4+3,none⟩=some u2:=(World.cell?_setCell_other _ _ _ _ (by intro h;injection h with _ h;omega)).trans hu2;have hf3:(W2.setCell ⟨g,k*4+2,none⟩ (.slice A1 x.gaps.length c1)).frozen? ⟨g,k*4+3,none⟩=false:=(World.frozen?_setCell _ _ _ _).trans hf2;go_simp;refine hK _ _ (fun _=>?_) ?_
   ·exact(HSQ2.out _ _ _ _ _ hbz.out)
   clear hK K;(try simp only[Act.put]);refine Qae (by kernel_rfl) ?_ _;obtain⟨rows',hcl'⟩:=HCLz.out.set hlt (v1:=.slice A1 x.gaps.length c1) (v2:=.slice A2 x.notes.length c2) (by rw[HX.out];exact HR1b.out) (by rw[HX.out];exact HR2.out);have HCL2:=Lh hcl';have HB3:Hid (Below g w ((W2.setCell ⟨g,k*4+2,none⟩ (.slice A1 x.gaps.length c1)).setCell ⟨g,k*4+3,none⟩ (.slice A2 x.notes.length c2))∧g<((W2.setCell ⟨g,k*4+2,none⟩ (.slice A1 x.gaps.length c1)).setCell ⟨g,k*4+3,none⟩ (.slice A2 x.notes.length c2)).heap.size):=Lh ⟨((HB.out.1.trans (hbz.out.mono (by have:=HB.out.2;omega))).setCell (p:=⟨g,k*4+2,none⟩) nL _).setCell (p:=⟨g,k*4+3,none⟩) nL _,by have:=HB.out.2;have:=hbz.out.size;simp;omega⟩;clear hcl' hu2 hf2 hu3 hf3 HCLz;unfold Exit.then;go_wp2_with fail;go_roundw;(case rel=>exact⟨k+1,rows',by omega,by go_num,HCL2,HB3⟩);case measure=>(first|(simp[intOf];done)|(simp[intOf];omega))
  ·have HD:Hid (Own wr w.heap.size 56 (.slice (some ⟨g,0,none⟩) l.length l.length) (l.map (Bd.mk:LineP→Bd LineP w.heap.size))):=Lh (by
    have h:=HCL.out
    rw[show k=l.length by omega] at h
    have h2:=h.done
    rwa [←HGE.out] at h2 ⊢)
   have HB9:Hid (Below w.heap.size w wr):=Lh (by have:=HB.out.1;rwa [←HGE.out] at this);go_wp2_with fail;go_ret;exact⟨_,rfl,HD.out,HB9.out⟩
section
variable {P:Program} {α:Type} [Rep α]
theorem run_freshC (w:World)(t ty e:TypeId)(z:Value)(bytes:Nat)(ht:P.underlying t=some (.slice e))(hinfo:(P.info? e).map (fun i=>(i.zero,i.size,i.bytes))=some (some z,Rep.size α,bytes)) (hzs:z.cells.size=Rep.size α) (hsz:0<Rep.size α) (A:Option Addr) (n k:Nat) (l:List α) (hn:l.length=n) (hl:Sl w (fun b=>b<w.heap.size) A k l) (hA:A=none→k=0) (A':Option Addr) (c m:Nat) (l':List α) (hm:l'.length=m) (hl':Sl w (fun b=>b<w.heap.size) A' c l') (h0:k<n+m) (hbytes:(n+m)*bytes≤140737488355328) (hml:n+m≤9223372036854775807):
 ∃v' w',(Builtin.append_ #[t,t] ty #[.slice A n k,.slice A' m c]).run P w=.ok v' w'∧Own w' w.heap.size e v' (l++l')∧Below w.heap.size w w'∧v'.ownBlock=some w.heap.size:=by
 obtain⟨i,hi,hz,hz1,hz2⟩:=info_parts hinfo;subst hn;subst hm;have hnk:=hl.1;have hm0:0<l'.length:=by omega
 obtain⟨b',o',news,rfl,hSb',hlt',hnl',hn1',hnc',hnr'⟩:=hl'.flat hm0
 have key:∀olds:List Value,olds.length=l.length*Rep.size α→(∀u∈olds,u.oneCell'=true)→(∀i,(h:i<l.length)→Rep.R w (fun b=>b<w.heap.size) ((olds.drop (i*Rep.size α)).take (Rep.size α)) l[i])→ ∀v' w',w'.ownsRow w.heap.size e (Rep.size α) v' (l.length+l'.length) (olds++news)→w.grownBy w' none→(v'.ownBlock=none∨v'.ownBlock=some w.heap.size)→Own w' w.heap.size e v' (l++l')∧Below w.heap.size w w':=by
  intro olds ho1 ho2 ho3 v' w' hw hg hat;have hb:Below w.heap.size w w':=⟨hg.os,hg.tape,hg.output,hg.size,fun k hk=>hg.block k hk (by simp)⟩;refine⟨?_,hb⟩;have hx:=Own.more (w:=w) (w':=w') (base:=w.heap.size) (e:=e) (v:=.slice none 0 0) (v':=v') (l:=([]:List α)) (m:=l++l') (news:=olds++news) (H:=w.heap.size) (Own.nil _ _ _)
   (fun xs hx=>by
     have:xs=[]:=List.eq_nil_of_length_eq_zero (by rw[hx.1];simp)
     subst this
     simpa using hw) hg hat nL
   (fun u hu=>(List.mem_append.1 hu).elim (ho2 u) (hn1' u)) (by rw[qA,qA,ho1,hnl',Nat.add_mul])
   (fun i hi=>by
     refine Rep.mono (S:=fun b=>b<w.heap.size) ?_ (fun j _ _=>by simp[Value.ownBlock])
     by_cases hil:i<l.length
     ·have e:(i+1)*Rep.size α≤olds.length:=by rw[ho1];exact Nat.mul_le_mul_right _ hil
      rw[Nat.add_mul,Nat.one_mul] at e
      rw[List.drop_append_of_le_length (by omega),List.take_append_of_le_length (by rw[List.length_drop];omega),List.getElem_append_left hil]
      exact ho3 i hil
     ·have him:i-l.length<l'.length:=by rw[qA] at hi;omega
      have e:i*Rep.size α=olds.length+(i-l.length)*Rep.size α:=by
       rw[ho1,←Nat.add_mul];congr 1;omega
      rw[List.getElem_append_right (by omega),List.drop_append,List.drop_of_length_le (by omega),List.nil_append,e,Nat.add_sub_cancel_left]
      exact hnr' _ him)
  rwa [List.nil_append] at hx
 have grow:∀(ad:Addr) (olds:List Value),olds.length=l.length*Rep.size α→(∀j u,olds[j]? =some u→w.cell? (ad.add j)=some u)→(∀u∈olds,u.oneCell'=true)→(∀i,(h:i<l.length)→Rep.R w (fun b=>b<w.heap.size) ((olds.drop (i*Rep.size α)).take (Rep.size α)) l[i])→ ∃v' w',(Builtin.append_ #[t,t] ty #[.slice (some ad) l.length k,.slice (some ⟨b',o',none⟩) l'.length c]).run P w=.ok v' w'∧Own w' w.heap.size e v' (l++l')∧Below w.heap.size w w'∧v'.ownBlock=some w.heap.size:=by
  intro ad olds hol hoc ho1 hor;obtain⟨v',w',hrun,h2,h3⟩:=run_append_arg_grows (P:=P) w t ty e i z (Rep.size α) bytes ht hi hz hz1 hz2 hzs hsz ad l.length k olds hol hoc ⟨b',o',none⟩ l'.length c news hnl' (fun j u hu=>by rw[Qaw];exact hnc' j u hu) h0 (by simp only[maxLen];omega) hbytes
  have e2:v'.ownBlock=some w.heap.size:=by
   have e1:=hrun;rw[run_append_grow (P:=P) w t ty e i z ht hi hz ad l.length k olds (by rw[hz1];exact hol) hoc ⟨b',o',none⟩ l'.length c news (by rw[hz1];exact hnl') (fun j u hu=>by rw[Qaw];exact hnc' j u hu) h0 (by omega) (by rw[hz2];exact growslice_fits h0 hbytes)] at e1;cases e1;rfl
  have h4:=key olds hol ho1 hor v' w' h2 h3 (.inr e2);exact⟨v',w',hrun,h4.1,h4.2,e2⟩
 by_cases h1:0<l.length
 ·obtain⟨b,o,olds,rfl,hSb,hlt,hol,ho1,hoc,hor⟩:=hl.flat h1;exact grow _ olds hol (fun j u hu=>by rw[Qaw];exact hoc j u hu) ho1 hor
 ·have h1':l.length=0:=by omega
  obtain rfl:l=[]:=List.eq_nil_of_length_eq_zero h1';rcases A with _|ad
  ·obtain rfl:=hA rfl;obtain⟨v',w',hrun,h2,h3,_,h5⟩:=run_append_own_at (P:=P) w w.heap.size t ty e i z (Rep.size α) bytes ht hi hz hz1 hz2 hzs hsz (.slice none 0 0) 0 [] (World.ownsRow_nil _ _ _ _) ⟨b',o',none⟩ l'.length c news hnl' (fun j u hu=>by rw[Qaw];exact hnc' j u hu) hn1' (by simp only[maxLen];omega) (by simpa using hbytes) nL
   have h4:=key [] (by simp) (by simp) (fun i hi=>absurd hi (by simp)) v' w' (by simpa using h2) h3 h5;refine⟨v',w',hrun,h4.1,h4.2,?_⟩;rcases h5 with h5|h5
   ·obtain⟨A2,c2,e2,-,hlc,-⟩:=h4.1.form;subst e2;cases A2 with
    |none=>
     obtain⟨xs,hx,-⟩:=h4.1;rcases hx.2 with⟨q1,q2⟩|⟨g,cap,cur,q1,_⟩
     ·simp at q2;simp[q2] at hm0
     ·cases q1
    |some a2=>exact absurd h5 (by simp[Value.ownBlock])
   ·exact h5
  ·exact grow ad [] (by simp) (fun j u hu=>by simp at hu) (by simp) (fun i hi=>absurd hi (by simp))
def Que (w:World)(base:Nat)(e:TypeId)(ob:Option Nat)(v:Value)(l:List α):Prop:=
 (∃(pre:List α) (g c:Nat),ob=some g∧pre.length<c∧Own w base e (.slice (some ⟨g,0,none⟩) (pre++l).length c) (pre++l)∧v=.slice (some ⟨g,pre.length*Rep.size α,none⟩) l.length (c-pre.length))∨
 (l=[]∧ob=none∧∃A,v=.slice A 0 0)
theorem Que.nil (w:World)(base:Nat)(e:TypeId):Que w base e none (.slice none 0 0) ([]:List α):=.inr ⟨rfl,rfl,_,rfl⟩
theorem Que.len {w:World}{base:Nat}{e:TypeId}{ob:Option Nat}{v:Value}{l:List α}(h:Que w base e ob v l):∃A c,v=.slice A l.length c∧Sl w (fun b=>b<w.heap.size) A c l∧(A=none→c=0):=by
 rcases h with⟨pre,g,c,rfl,hlt,ho,rfl⟩|⟨rfl,rfl,A,rfl⟩
 ·refine⟨_,_,rfl,?_,by simp⟩;obtain⟨A',c',e',hs⟩:=ho.sl;cases e';have hd:=hs.drop pre.length (by simp);rw[if_neg (by omega)] at hd;simpa[Qaw] using hd
 ·exact⟨A,0,rfl,Sl.nil _ _ _ _ (Nat.zero_le _),fun _=>rfl⟩
theorem Que.kept {w w':World}{base:Nat}{e:TypeId}{ob:Option Nat}{v:Value}{l:List α}(h:Que w base e ob v l)(hk:∀i,i<w.heap.size→w'.heap[i]? =w.heap[i]?):Que w' base e ob v l:=by
 rcases h with⟨pre,g,c,rfl,hlt,ho,rfl⟩|⟨rfl,rfl,A,rfl⟩
 ·exact .inl ⟨pre,g,c,rfl,hlt,ho.kept hk,rfl⟩
 ·exact .inr ⟨rfl,rfl,A,rfl⟩
theorem Que.below {w w':World}{base:Nat}{e:TypeId}{ob:Option Nat}{v:Value}{l:List α}(h:Que w base e ob v l)(hb:Below w.heap.size w w'):Que w' base e ob v l:=h.kept hb.block
theorem Que.lt {w:World}{base:Nat}{e:TypeId}{ob:Option Nat}{v:Value}{l:List α}(h:Que w base e ob v l):∀k,ob=some k→base≤k∧k<w.heap.size:=by
 rcases h with⟨pre,g,c,rfl,hlt,ho,rfl⟩|⟨rfl,rfl,A,rfl⟩
 ·intro k hk;cases hk;exact ho.lt g rfl
 ·intro k hk;cases hk
theorem Que.cut {w:World}{base:Nat}{e:TypeId}{ob:Option Nat}{l:List α}{A:Option Addr}{n c:Nat}(h:Que w base e ob (.slice A n c) l){k:Nat}(hk:k≤l.length):
 ∃ob',(ob'=none∨ob'=ob)∧Que w base e ob' (.slice (if c=k then A else A.map (·.add (k*Rep.size α))) (n-k) (c-k)) (l.drop k):=by
 rcases h with⟨pre,g,c0,rfl,hlt,ho,hv⟩|⟨rfl,rfl,A,hv⟩
 ·injection hv with h1 h2 h3
  subst h1 h2 h3;obtain⟨_,_,e1,-,hlc,-⟩:=ho.form;injection e1 with _ _ e3
  rw[←e3,qA] at hlc;by_cases hck:c0-pre.length=k
  ·refine⟨none,.inl rfl,.inr ⟨List.drop_of_length_le (by omega),rfl,_,by rw[show l.length-k=0 by omega,show c0-pre.length-k=0 by omega]⟩⟩
  ·refine⟨some g,.inr rfl,.inl ⟨pre++l.take k,g,c0,rfl,?_,?_,?_⟩⟩
   ·rw[qA,qK];omega
   ·rw[List.append_assoc,List.take_append_drop];exact ho
   ·rw[if_neg hck,qA,qK,List.length_drop,Nat.min_eq_left hk,Nat.add_mul];simp only[Option.map_some,Qaw,Nat.sub_sub]
 ·injection hv with h1 h2 h3
  subst h1 h2 h3;obtain rfl:k=0:=by simpa using hk
  exact⟨none,.inl rfl,.inr ⟨rfl,rfl,A,rfl⟩⟩
theorem run_que (w:World)(base:Nat)(t ty e:TypeId)(z:Value)(bytes:Nat)(ht:P.underlying t=some (.slice e))(hinfo:(P.info? e).map (fun i=>(i.zero,i.size,i.bytes))=some (some z,Rep.size α,bytes)) (hzs:z.cells.size=Rep.size α) (hsz:0<Rep.size α) (ob:Option Nat) (v:Value) (l:List α) (hown:Que w base e ob v l) (A:Option Addr) (c n:Nat) (m:List α) (hn:m.length=n) (S:Nat→Prop) (hm:Sl w S A c m) (hS:∀i,S i→i<w.heap.size→some i≠ob) (hS2:∀i,S i→i<w.heap.size) (hbytes:(l.length+n)*bytes≤140737488355328) (hml:l.length+n≤9223372036854775807) (hbase:base≤w.heap.size):
 ∃v' w' ob',(Builtin.append_ #[t,t] ty #[v,.slice A n c]).run P w=.ok v' w'∧Que w' base e ob' v' (l++m)∧w.grownBy w' ob∧(ob'=ob∨ob'=some w.heap.size):=by
 obtain⟨i,hi,hz,hz1,hz2⟩:=info_parts hinfo;subst hn;obtain⟨A0,k0,rfl,hs0,hA0⟩:=hown.len;by_cases h0:k0<l.length+m.length
 ·obtain⟨v',w',h1,h2,h3,h4⟩:=run_freshC (P:=P) w t ty e z bytes ht hinfo hzs hsz A0 l.length k0 l rfl hs0 hA0 A c m.length m rfl (hm.mono fun i hi _=>hS2 i hi) h0 hbytes hml;refine⟨v',w',some w.heap.size,h1,?_,⟨h3.os,h3.tape,h3.output,h3.size,fun k hk _=>h3.block k hk⟩,.inr rfl⟩;have h5:=h2.re hbase;obtain⟨A2,c2,rfl,-,hlc,-⟩:=h5.form;cases A2 with
  |none=>exact absurd h4 (by simp[Value.ownBlock])
  |some a2=>
   obtain⟨xs,hx,-⟩:=id h5;rcases hx.2 with⟨q1,_⟩|⟨g,cap,cur,q1,_⟩
   ·cases q1
   ·cases q1;simp only[Value.ownBlock,Option.some.injEq] at h4;subst h4;exact .inl ⟨[],_,c2,rfl,by rw[qA] at hlc;rw[List.length_nil];omega,h5,by simp⟩
 ·by_cases hm0:0<m.length
  ·rcases id hown with⟨pre,g,cc,rfl,hlt,ho,hv⟩|⟨rfl,rfl,_,hv⟩
   ·injection hv with e1 e2 e3
    subst e1 e3;obtain⟨b,o,news,rfl,hSb,hltb,hnl,hn1,hnc,hnr⟩:=hm.flat hm0;have hbig:(pre++l).length+m.length≤cc:=(by rw[qA];omega);obtain⟨xs,hx,ho1,hr⟩:=id ho;obtain⟨w',hrun,hx2,hg⟩:=run_append_fits (P:=P) w base t ty e i (Rep.size α) ht hi hz1 g (pre++l).length cc xs hx ⟨b,o,none⟩ m.length c news hnl (fun j u hu=>by rw[Qaw];exact hnc j u hu) hn1 hbig;rcases id hx.2 with⟨q1,_⟩|⟨g',cap,cur,q1,hbg,hgg,hnc2,hcm,hcs,hcx⟩
    ·cases q1
    ·injection q1 with q1 q2 q3
     injection q1 with q1
     injection q1 with q1
     subst q1 q3;have hfz:∀j,w.frozen? ⟨g,j,none⟩=false:=fun j=>by simp[World.frozen?,hgg]
     have hcell:∀j,j<(pre++l).length*Rep.size α+news.length→(w.cell? ⟨g,j,none⟩).isSome=true:=fun j hj=>by
      rw[cell_of_row w g j cur e (0,0) hgg];have:j<cur.size:=by
       have:=Nat.mul_le_mul_right (Rep.size α) hbig;rw[Nat.add_mul,←hnl] at this;omega
      rw[Array.getElem?_eq_getElem this];rfl
     have ea:pre.length*Rep.size α+l.length*Rep.size α=(pre++l).length*Rep.size α:=by rw[qA,Nat.add_mul]
     have h1:=run_append_room_cells (P:=P) w t ty e i ht hi g 0 (pre++l).length cc ⟨b,o,none⟩ m.length c news (by rw[hz1];exact hnl) (fun j u hu=>by rw[Qaw];exact hnc j u hu) hn1 hbig (fun j hj=>hcell _ (by rw[hz1];omega)) (fun j _=>hfz _)
     have h2:=run_append_room_cells (P:=P) w t ty e i ht hi g (pre.length*Rep.size α) l.length (cc-pre.length) ⟨b,o,none⟩ m.length c news (by rw[hz1];exact hnl) (fun j u hu=>by rw[Qaw];exact hnc j u hu) hn1 (by omega) (fun j hj=>hcell _ (by rw[hz1,ea];omega)) (fun j _=>hfz _)
     rw[h1] at hrun;cases hrun;rw[hz1] at h2 hx2 hg;rw[Nat.zero_add] at hx2 hg;rw[ea] at h2;refine⟨_,_,some g,h2,.inl ⟨pre,g,cc,rfl,by omega,?_,by rw[@qA _ l]⟩,hg,.inl rfl⟩;have e3:pre++(l++m)=(pre++l)++m:=(List.append_assoc _ _ _).symm;rw[e3];have hmore:=Own.more (m:=m) (news:=news) (H:=w.heap.size) (v':=.slice (some ⟨g,0,none⟩) ((pre++l).length+m.length) cc) ho (fun ys hy=>?_) hg (.inl rfl) nL hn1 hnl (fun i hi=>Rep.mono (hnr i hi) (fun b hb hl=>hS b hb hl))
     ·have e4:((pre++l)++m).length=(pre++l).length+m.length:=qA;rw[e4];exact hmore
     ·have e4:((pre++l)++m).length=(pre++l).length+m.length:=qA;rw[e4];obtain rfl:xs=ys:=by
       rcases hy.2 with⟨q1,q2⟩|⟨g2,c2,cu2,q1,_,q3,_,_,_,q4⟩
       ·cases q1
       ·cases q1;rw[hgg] at q3;cases q3;rw[←hcx,←q4]
      exact hx2
   ·injection hv with _ _ e3
    rw[List.length_nil] at h0;omega
  ·obtain rfl:m=[]:=List.eq_nil_of_length_eq_zero (by omega);refine⟨_,w,ob,?_,by simpa using hown,World.grownBy.refl _ _,.inl rfl⟩;have hle:l.length≤k0:=hs0.1;rcases A0 with _|a0<;>rcases A with _|a<;>simp[Builtin.append_,run_underlying ht,sizeOf,typeInfo,hi,Builtin.lenOf,Builtin.firstCells,loadCells,loadCellsFrom,storeCells,hle]
end
def Qd7 (Hb Lb Sb:Nat):Value:=.func (.func 198) #[] #[.pointer (some ⟨Hb,0,none⟩),.pointer (some ⟨Lb,0,none⟩),.pointer (some ⟨Sb,0,none⟩)]
theorem room_any (Hb Lb Sb h l s:Nat)(w:World)(hh:h≤1048576)(hl:l≤1073741824)(hs:s≤1073741824)(h1:w.cell? ⟨Hb,0,none⟩=some (.int .i64 (h:Int)))(h2:w.cell? ⟨Lb,0,none⟩=some (.int .i64 (l:Int)))(h3:w.cell? ⟨Sb,0,none⟩=some (.int .i64 (s:Int))):
 Calls Tryz.prog 198 #[.pointer (some ⟨Hb,0,none⟩),.pointer (some ⟨Lb,0,none⟩),.pointer (some ⟨Sb,0,none⟩)] w fun e w'=>e=.returned (.int .i64 (QcE h l s))∧w=w':=by
 go_enter Tryz.func198,Tryz.ntmps198;go_wp2_with fail;go_ret;refine⟨Qas ?_,rfl⟩;unfold QcE;omega
def QcH (h l s q:Nat)(body:List LineP):Bool:=match body[l]? with
 |none=>false
 |some x=>QcD h l s q x
theorem fits_any (Lb Bb Rb Sb Qb Hb h l s q cq cb:Nat)(Aq A:Option Addr)(body:List LineP)(w:World)(hh:h≤1048576)(hl:l≤body.length)(hbn:body.length≤1073741824)(hs:s≤1073741824)(_hq:q≤1073741824) (h1:w.cell? ⟨Hb,0,none⟩=some (.int .i64 (h:Int))) (h2:w.cell? ⟨Lb,0,none⟩=some (.int .i64 (l:Int))) (h3:w.cell? ⟨Sb,0,none⟩=some (.int .i64 (s:Int))) (h4:w.cell? ⟨Bb,0,none⟩=some (.slice A body.length cb)) (h5:w.cell? ⟨Qb,0,none⟩=some (.slice Aq q cq)) (h6:w.cell? ⟨Rb,0,none⟩=some (Qd7 Hb Lb Sb)) (hb:Sl w (fun b=>b<w.heap.size) A cb body):
 Calls Tryz.prog 199 #[.pointer (some ⟨Lb,0,none⟩),.pointer (some ⟨Bb,0,none⟩),.pointer (some ⟨Rb,0,none⟩),.pointer (some ⟨Sb,0,none⟩),.pointer (some ⟨Qb,0,none⟩)] w fun e w'=>e=.returned (.bool (QcH h l s q body))∧Below w.heap.size w w':=by
 have HR:Hid (∀W,Below w.heap.size w W→Calls Tryz.prog 198 #[.pointer (some ⟨Hb,0,none⟩),.pointer (some ⟨Lb,0,none⟩),.pointer (some ⟨Sb,0,none⟩)] W fun e w'=>e=.returned (.int .i64 (QcE h l s))∧W=w'):=Lh (fun W hW=>room_any Hb Lb Sb h l s W hh (by omega) hs ((hW.cell (p:=⟨Hb,0,none⟩) (World.block_lt_of_cell? w ⟨Hb,0,none⟩ h1)).trans h1) ((hW.cell (p:=⟨Lb,0,none⟩) (World.block_lt_of_cell? w ⟨Lb,0,none⟩ h2)).trans h2) ((hW.cell (p:=⟨Sb,0,none⟩) (World.block_lt_of_cell? w ⟨Sb,0,none⟩ h3)).trans h3))
 unfold Qd7 at h6;have HL:=Lh hl;by_cases he:l=body.length
 ·have hf:QcH h l s q body=false:=by unfold QcH;rw[List.getElem?_eq_none (by omega)]
  rw[hf];rw[←he] at h4;have HE:=Lh he;clear hl hb hf he;go_enter Tryz.func199,Tryz.ntmps199;go_wp2_with fail;go_ret;exact⟨rfl,Below.refl _ _⟩
 ·have hlt:l<body.length:=by omega
  have hf:QcH h l s q body=QcD h l s q body[l]:=(by unfold QcH;rw[qG hlt]);rw[hf];obtain⟨b,o,Ag,cg,An,cn,rfl,hbb,hbl,-,-,-,e3,-,-⟩:=Qdr hb hlt;have hlc:body.length≤cb:=hb.1;have hlI:(l:Int)<(body.length:Int):=(by omega);have hl0:(0:Int)≤(l:Int):=(by omega);have HNE:((l:Int)==(body.length:Int))=false:=(by rw[beq_eq_false_iff_ne];omega);have HE:=Lh he;obtain⟨x,hx⟩:∃x,body[l]=x:=⟨_,rfl⟩;rw[hx] at e3 ⊢;clear hl hb hf he hx;by_cases hn:x.notes.length=0
  ·have hf:QcD h l s q x=decide (0<QcE h l s):=by unfold QcD;rw[if_pos (List.eq_nil_of_length_eq_zero hn)]
   rw[hf];rw[hn] at e3;clear hn hf;go_enter Tryz.func199,Tryz.ntmps199;go_wp2_with (first|(go_at_call 198;refine(HR.out _ bR).mono ?_;rintro e w' ⟨rfl,rfl⟩)|fail);go_ret;exact⟨rfl,Below.refl _ _⟩
  ·have hf:QcD h l s q x=(decide (s=q)&&decide (3-((min s 1:Nat):Int)≤QcE h l s)):=by unfold QcD;rw[if_neg (fun h=>hn (by rw[h];rfl))]
   rw[hf];have HN0:((x.notes.length:Int)==0)=false:=(by rw[beq_eq_false_iff_ne];omega);have HN:=Lh hn;clear hn hf;have hl1:Lb<w.heap.size:=World.block_lt_of_cell? w ⟨Lb,0,none⟩ h2;have hl3:Sb<w.heap.size:=World.block_lt_of_cell? w ⟨Sb,0,none⟩ h3;have hl5:Qb<w.heap.size:=World.block_lt_of_cell? w ⟨Qb,0,none⟩ h5;have hl6:Rb<w.heap.size:=World.block_lt_of_cell? w ⟨Rb,0,none⟩ h6
   have HE1:∀b,decide (s=q)=b→((s:Int)==(q:Int))=b:=fun b hb=>by
    rw[←hb,Bool.eq_iff_iff,beq_iff_eq,decide_eq_true_iff];omega
   cases hsq:decide (s=q)<;>
   ·have HE2:=HE1 _ hsq;clear HE1 hsq;go_enter Tryz.func199,Tryz.ntmps199;go_wp2_with fail;refine Qa2 (by kernel_rfl) (by kernel_rfl) ?_;intro T5 hT5 f hf hg;have a3:∀d,(f d).cell? ⟨Sb,0,none⟩=some (.int .i64 (s:Int)):=fun d=>((hf d).cell (p:=⟨Sb,0,none⟩) hl3).trans h3
    have a5:∀d,(f d).cell? ⟨Qb,0,none⟩=some (.slice Aq q cq):=fun d=>((hf d).cell (p:=⟨Qb,0,none⟩) hl5).trans h5
    have a6:∀d,(f d).cell? ⟨Rb,0,none⟩=some (.func (.func 198) #[] #[.pointer (some ⟨Hb,0,none⟩),.pointer (some ⟨Lb,0,none⟩),.pointer (some ⟨Sb,0,none⟩)]):=fun d=>((hf d).cell (p:=⟨Rb,0,none⟩) hl6).trans h6
    have HF5:=Lh hf;have HG5:=Lh hg;clear hf hg
    repeat(go_big_quiet_step (first|(go_at_call 198;refine(HR.out _ (HF5.out _)).mono ?_;rintro e w6 ⟨rfl,rfl⟩;exact⟨rfl,HG5.out _ _ bR⟩)))
    refine wpQuiet_nil ?_;rintro _ ⟨nq,rfl⟩;have Hd:=Lh (HF5.out nq);clear HF5 HG5 a3 a5 a6;generalize f nq=wd at*;unfold Exit.then;go_wp2_with fail;go_ret;refine⟨Qat ?_,Hd.out⟩;first|rfl|(rw[Bool.true_and,decide_eq_decide];constructor<;>intro _<;>omega)
structure Av (α:Type)(P:Nat→Prop) where
 x:α
instance instRepAv (α:Type)[Rep α](P:Nat→Prop):Rep (Av α P) where
 size:=Rep.size α
 R w S cs y:=Rep.R w (fun b=>S b∧P b) cs y.x
 len h:=Rep.len (α:=α) h
 one h:=Rep.one (α:=α) h
 keep h hk:=Rep.keep (α:=α) h (fun i hi hlt=>hk i hi.1 hlt)
 mono h hS:=Rep.mono (α:=α) h (fun i hi hlt=>⟨hS i hi.1 hlt,hi.2⟩)
structure OwnP {α:Type}[Rep α](w:World)(base:Nat)(e:TypeId)(v:Value)(l:List α)(P:Nat→Prop):Prop where
 own:Own w base e v (l.map (Av.mk:α→Av α P))
 at_:∀g,v.ownBlock=some g→P g
section
variable {α:Type} [Rep α] {P Q:Nat→Prop} {w w':World} {base:Nat} {e:TypeId} {v:Value} {l:List α}
theorem size_av:Rep.size (Av α P)=Rep.size α:=rfl
theorem OwnP.nil (w:World)(base:Nat)(e:TypeId)(P:Nat→Prop):OwnP w base e (.slice none 0 0) ([]:List α) P:=⟨Own.nil _ _ _,by simp[Value.ownBlock]⟩
theorem OwnP.kept (h:OwnP w base e v l P)(hk:Kept P w w'):OwnP w' base e v l P:=by
 obtain⟨⟨xs,hx,ho,hr⟩,ha⟩:=h;refine⟨⟨xs,⟨hx.1,?_⟩,ho,fun i hi=>Rep.keep (α:=α) (hr i hi) (fun b hb hl=>hk b hb.2 hl)⟩,ha⟩;rcases hx.2 with hn|⟨g,cap,cur,hv,hb,hg,rest⟩
 ·exact .inl hn
 ·refine .inr ⟨g,cap,cur,hv,hb,?_,rest⟩;rw[hk g (ha g (by rw[hv];rfl)) (Array.getElem?_eq_some_iff.1 hg).1];exact hg
theorem OwnP.below (h:OwnP w base e v l P)(hb:Below w.heap.size w w'):OwnP w' base e v l P:=h.kept (Kept.all hb)
theorem OwnP.grown {row:Option Nat}(h:OwnP w base e v l P)(hg:w.grownBy w' row)(hP:∀i,P i→some i≠row):OwnP w' base e v l P:=h.kept (Kept.grown hg hP)
theorem OwnP.set (h:OwnP w base e v l P)(b o:Nat)(u:Value)(hP:∀i,P i→i≠b):OwnP (w.setCell ⟨b,o,none⟩ u) base e v l P:=
 h.kept (fun i hi _=>Qac w b o u (hP i hi))
theorem OwnP.lt (h:OwnP w base e v l P):∀k,v.ownBlock=some k→base≤k∧k<w.heap.size:=h.own.lt
theorem OwnP.mono (h:OwnP w base e v l P)(hPQ:∀i,P i→i<w.heap.size→Q i):OwnP w base e v l Q:=by
 have hlt:=h.own.lt;obtain⟨⟨xs,hx,ho,hr⟩,ha⟩:=h;refine⟨⟨xs,by rw[qM] at hx ⊢;exact hx,ho,fun i hi=>?_⟩,fun g hg=>hPQ g (ha g hg) (hlt g hg).2⟩;rw[qM] at hi;have h1:=hr i (by rw[qM];exact hi);rw[List.getElem_map] at h1 ⊢;exact Rep.mono (α:=α) h1 (fun b hb hl=>⟨hb.1,hPQ b hb.2 hl⟩)
theorem OwnP.plain (h:OwnP w base e v l P):Own w base e v l:=by
 obtain⟨⟨xs,hx,ho,hr⟩,ha⟩:=h;refine⟨xs,by rw[qM] at hx;exact hx,ho,fun i hi=>?_⟩;have h1:=hr i (by rw[qM];exact hi);rw[List.getElem_map] at h1;exact Rep.mono (α:=α) h1 (fun b hb _=>hb.1)
theorem OwnP.len (h:OwnP w base e v l P):∃A c,v=.slice A l.length c∧(∀a,A=some a→base≤a.block∧a.block<w.heap.size)∧l.length≤c∧c≤maxLen:=h.plain.form
theorem OwnP.sl (h:OwnP w base e v l P):∃A c,v=.slice A l.length c∧Sl w P A c l:=by
 obtain⟨⟨xs,hx,ho,hr⟩,ha⟩:=h;rcases hx.2 with⟨rfl,hn⟩|⟨g,cap,cur,rfl,hb,hg,hnc,hcm,hcs,htake⟩
 ·rw[qM] at hn;exact⟨none,0,by rw[hn],by omega,by simp[maxLen],fun h=>absurd h (by omega)⟩
 ·rw[qM] at hnc htake;have hlt:=(Array.getElem?_eq_some_iff.1 hg).1;refine⟨some ⟨g,0,none⟩,cap,by rw[qM],hnc,hcm,fun _=>⟨g,0,rfl,ha g rfl,hlt,fun i hi=>?_⟩⟩;have h1:=hr i (by rw[qM];exact hi);rw[List.getElem_map] at h1;refine⟨_,Rep.mono (α:=α) h1 (fun b hb' _=>hb'.2),fun j u hu=>?_⟩;rw[Nat.zero_add,cell_of_row w g _ cur e (0,0) hg];rw[List.getElem?_take] at hu;split at hu
  ·rename_i hj;rw[List.getElem?_drop] at hu;have hu2:xs[i*Rep.size α+j]? =some u:=hu;have hlx:i*Rep.size α+j<xs.length:=(List.getElem?_eq_some_iff.1 hu2).1;have hxl:xs.length=l.length*Rep.size α:=(by have:=hx.1;rw[qM] at this;exact this);have e2:cur.toList[i*Rep.size α+j]? =some u:=by
    have h3:(cur.toList.take (l.length*Rep.size α))[i*Rep.size α+j]? =some u:=by
     have h4:=congrArg (fun t:List Value=>t[i*Rep.size α+j]?) htake;simp only[size_av] at h4;rw[h4];exact hu2
    rw[List.getElem?_take] at h3;split at h3
    ·exact h3
    ·cases h3
   simpa using e2
  ·cases hu
theorem OwnP.ofBd (h:Own w base e v (l.map (Av.mk:α→Av α P)))(ha:∀g,v.ownBlock=some g→P g):OwnP w base e v l P:=⟨h,ha⟩
end
section
variable {α:Type} [Rep α] {P:Nat→Prop} {w w':World} {base:Nat} {e:TypeId} {v:Value}
theorem Own.keptA {l:List (Av α P)}(h:Own w base e v l)(hk:Kept P w w')(ha:∀g,v.ownBlock=some g→g<w.heap.size→w'.heap[g]? =w.heap[g]?):Own w' base e v l:=by
 obtain⟨xs,hx,ho,hr⟩:=h;refine⟨xs,⟨hx.1,?_⟩,ho,fun i hi=>Rep.keep (α:=α) (hr i hi) (fun b hb hl=>hk b hb.2 hl)⟩;rcases hx.2 with hn|⟨g,cap,cur,hv,hb,hg,rest⟩
 ·exact .inl hn
 ·refine .inr ⟨g,cap,cur,hv,hb,?_,rest⟩;rw[ha g (by rw[hv];rfl) (Array.getElem?_eq_some_iff.1 hg).1];exact hg
theorem Que.keptA {ob:Option Nat}{l:List (Av α P)}(h:Que w base e ob v l)(hk:Kept P w w')(ha:∀g,ob=some g→g<w.heap.size→w'.heap[g]? =w.heap[g]?):Que w' base e ob v l:=by
 rcases h with⟨pre,g,c,rfl,hlt,ho,rfl⟩|⟨rfl,rfl,A,rfl⟩
 ·exact .inl ⟨pre,g,c,rfl,hlt,ho.keptA hk (fun g' hg'=>ha g' hg'),rfl⟩
 ·exact .inr ⟨rfl,rfl,A,rfl⟩
theorem Sl.av {S:Nat→Prop}{A:Option Addr}{c:Nat}{l:List α}(h:Sl w S A c l)(hS:∀i,S i→i<w.heap.size→P i):Sl w S A c (l.map (Av.mk:α→Av α P)):=by
 refine⟨by rw[qM];exact h.1,h.2.1,fun h0=>?_⟩;rw[qM] at h0;obtain⟨b,o,rfl,hb,hlt,hx⟩:=h.2.2 h0;refine⟨b,o,rfl,hb,hlt,fun i hi=>?_⟩;rw[qM] at hi;obtain⟨es,hr,hc⟩:=hx i hi;rw[List.getElem_map];exact⟨es,Rep.mono (α:=α) hr (fun b hb hl=>⟨hb,hS b hb hl⟩),hc⟩
theorem Sl.unav {S:Nat→Prop}{A:Option Addr}{c:Nat}{l:List α}(h:Sl w S A c (l.map (Av.mk:α→Av α P))):Sl w S A c l:=by
 refine⟨by have:=h.1;rw[qM] at this;exact this,h.2.1,fun h0=>?_⟩;obtain⟨b,o,rfl,hb,hlt,hx⟩:=h.2.2 (by rw[qM];exact h0);refine⟨b,o,rfl,hb,hlt,fun i hi=>?_⟩;obtain⟨es,hr,hc⟩:=hx i (by rw[qM];exact hi);rw[List.getElem_map] at hr;exact⟨es,Rep.mono (α:=α) hr (fun b hb hl=>hb.1),hc⟩
theorem OwnP.pushed {l:List α}{d:α}{v':Value}{H:Nat}(h:OwnP w base e v l P)(h2:Own w' base e v' (l.map (Av.mk:α→Av α P)++[⟨d⟩]))(hat:∀g,v'.ownBlock=some g→v.ownBlock=some g∨g=H)(hH:P H):OwnP w' base e v' (l++[d]) P:=
 ⟨by rw[List.map_append];exact h2,fun g hg=>(hat g hg).elim (h.at_ g) (fun e=>e▸hH)⟩
end
def PBk (B:Nat)(X:List Nat)(ob:Option Nat)(b:Nat):Prop:=B≤b∧b∉X∧some b≠ob
abbrev OldL (B:Nat):=Av LineP (fun b=>b<B)
structure PO (w0 w:World)(Bb Hb Qb:Nat)(X:List Nat)(A:Option Addr)(c:Nat)(body:List LineP)(h:Nat)(ob:Option Nat)(qv:Value)(queue:List LineP)(pv:Value)(pages:List PageP):Prop where
 bl:Below w0.heap.size w0 w
 bb:ABox w Bb 41 [.slice A body.length c]
 bs:Sl w (fun b=>b<w0.heap.size) A c body
 hb:ABox w Hb 3 [.int .i64 (h:Int)]
 qb:ABox w Qb 41 [qv]
 q:Que w w0.heap.size 56 ob qv (queue.map (Av.mk:LineP→OldL w0.heap.size))
 pg:OwnP w w0.heap.size 43 pv pages (PBk w0.heap.size (Bb::Hb::Qb::X) ob)
 nd:(Bb::Hb::Qb::X).Nodup
 ge:∀x∈Bb::Hb::Qb::X,w0.heap.size≤x∧x<w.heap.size∧some x≠ob
section
variable {w0 w w':World} {Bb Hb Qb:Nat} {X:List Nat} {A:Option Addr} {c:Nat} {body:List LineP} {h:Nat} {ob:Option Nat} {qv:Value} {queue:List LineP} {pv:Value} {pages:List PageP}
theorem PO.to (H:PO w0 w Bb Hb Qb X A c body h ob qv queue pv pages)(hb:Below w.heap.size w w'):PO w0 w' Bb Hb Qb X A c body h ob qv queue pv pages:=
 ⟨H.bl.trans (hb.mono H.bl.size),H.bb.to hb,H.bs.keep (Kept.all hb) hb.size,H.hb.to hb,H.qb.to hb,H.q.below hb,H.pg.below hb,H.nd,fun x hx=>⟨(H.ge x hx).1,by have:=(H.ge x hx).2.1;have:=hb.size;omega,(H.ge x hx).2.2⟩⟩
theorem PO.set (H:PO w0 w Bb Hb Qb X A c body h ob qv queue pv pages){x:Nat}(hx:x∈X)(u:Value):PO w0 (w.setCell ⟨x,0,none⟩ u) Bb Hb Qb X A c body h ob qv queue pv pages:=by
 have hn:=H.nd;simp only[List.nodup_cons,List.mem_cons,not_or] at hn;have n1:Bb≠x:=fun e=>hn.1.2.2 (e▸hx)
 have n2:Hb≠x:=fun e=>hn.2.1.2 (e▸hx)
 have n3:Qb≠x:=fun e=>hn.2.2.1 (e▸hx)
 have hxx:x∈Bb::Hb::Qb::X:=by simp[hx]
 have hg:=H.ge x hxx;have hold:Kept (fun b=>b<w0.heap.size) w (w.setCell ⟨x,0,none⟩ u):=fun i hi _=>Qac w x 0 u (by omega)
 refine⟨H.bl.setCell (p:=⟨x,0,none⟩) hg.1 _,H.bb.other n1 _ _,H.bs.keep hold (by simp),H.hb.other n2 _ _,H.qb.other n3 _ _,H.q.keptA hold (fun g hg' _=>Qac w x 0 u (fun e=>hg.2.2 (e▸hg'.symm))),H.pg.set x 0 u (fun i hi e=>hi.2.1 (e▸hxx)),H.nd,fun y hy=>⟨(H.ge y hy).1,by simpa using(H.ge y hy).2.1,(H.ge y hy).2.2⟩⟩
theorem PO.que (H:PO w0 w Bb Hb Qb X A c body h ob qv queue pv pages){ob':Option Nat}{qv':Value}{queue':List LineP}(hg:w.grownBy w' ob)(hq:Que w' w0.heap.size 56 ob' qv' (queue'.map (Av.mk:LineP→OldL w0.heap.size))) (hob:ob'=ob∨ob'=some w.heap.size):PO w0 (w'.setCell ⟨Qb,0,none⟩ qv') Bb Hb Qb X A c body h ob' qv' queue' pv pages:=by
 have hn:=H.nd;simp only[List.nodup_cons,List.mem_cons,not_or] at hn;have n1:Bb≠Qb:=fun e=>hn.1.2.1 e
 have n2:Hb≠Qb:=fun e=>hn.2.1.1 e
 have gB:=H.ge Bb (by simp);have gH:=H.ge Hb (by simp);have gQ:=H.ge Qb (by simp);have hol:=H.q.lt;have hsz:=hg.size
 have hne:∀x∈Bb::Hb::Qb::X,some x≠ob':=fun x hx=>by
  rcases hob with e|e
  ·rw[e];exact(H.ge x hx).2.2
  ·rw[e];intro e2;injection e2 with e2;have:=(H.ge x hx).2.1;omega
 have hold:Kept (fun b=>b<w0.heap.size) w w':=Kept.grown hg (fun i hi e=>by have:=(hol i e.symm).1;omega);have hold2:Kept (fun b=>b<w0.heap.size) w' (w'.setCell ⟨Qb,0,none⟩ qv'):=fun i hi _=>Qac w' Qb 0 qv' (by omega)
 have box:∀{x t cs},x∈Bb::Hb::Qb::X→ABox w x t cs→ABox w' x t cs:=fun hx hb=>(hg.block _ (H.ge _ hx).2.1 (H.ge _ hx).2.2).trans hb
 have hpg:OwnP w' w0.heap.size 43 pv pages (PBk w0.heap.size (Bb::Hb::Qb::X) ob'):=
  (H.pg.mono (Q:=fun b=>PBk w0.heap.size (Bb::Hb::Qb::X) ob b∧PBk w0.heap.size (Bb::Hb::Qb::X) ob' b) (fun i hi hl=>⟨hi,hi.1,hi.2.1,by
    rcases hob with e|e
    ·rw[e];exact hi.2.2
    ·rw[e];intro e2;injection e2 with e2;omega⟩)).kept (Kept.grown hg (fun i hi=>hi.1.2.2)) |>.mono (fun i hi _=>hi.2)
 refine⟨(H.bl.grown hg H.bl.size (fun k hk=>(hol k hk).1)).setCell (p:=⟨Qb,0,none⟩) gQ.1 _,(box (by simp) H.bb).other n1 _ _,(H.bs.keep hold hsz).keep hold2 (by simp),(box (by simp) H.hb).other n2 _ _,?_,hq.keptA hold2 (fun g hg' _=>Qac w' Qb 0 qv' (fun e=>hne Qb (by simp) (e▸hg'.symm))),hpg.set Qb 0 qv' (fun i hi e=>hi.2.1 (by simp[e])),H.nd,fun y hy=>⟨(H.ge y hy).1,by have:=(H.ge y hy).2.1;simp;omega,hne y hy⟩⟩
 have:=(box (by simp) H.qb).set 0 qv';simpa using this
theorem PO.more (H:PO w0 w Bb Hb Qb [] A c body h ob qv queue pv pages)(hb:Below w.heap.size w w'){Y:List Nat}(hY:∀y∈Y,w.heap.size≤y∧y<w'.heap.size)(hn:Y.Nodup):PO w0 w' Bb Hb Qb Y A c body h ob qv queue pv pages:=by
 have H1:=H.to hb;have hno:∀x∈[Bb,Hb,Qb],x∉Y:=fun x hx hy=>by have:=(H.ge x (by simpa using hx)).2.1;have:=(hY x hy).1;omega
 have hol:=H.q.lt;refine⟨H1.bl,H1.bb,H1.bs,H1.hb,H1.qb,H1.q,?_,?_,?_⟩
 ·refine(H.pg.mono (fun i hi hl=>⟨hi.1,?_,hi.2.2⟩)).below hb;intro hm;have:i∈[Bb,Hb,Qb]∨i∈Y:=(by simp only[List.mem_cons] at hm ⊢;simp;rcases hm with h|h|h|h<;>simp[h]);rcases this with h1|h1
  ·exact hi.2.1 h1
  ·have:=(hY i h1).1;omega
 ·have:=H.nd;simp only[List.nodup_cons,List.mem_cons,not_or] at this ⊢;refine⟨⟨this.1.1,this.1.2.1,hno Bb (by simp)⟩,⟨this.2.1.1,hno Hb (by simp)⟩,hno Qb (by simp),hn⟩
 ·intro x hx;by_cases hm:x∈[Bb,Hb,Qb]
  ·exact H1.ge x hm
  ·have hy:x∈Y:=by simp only[List.mem_cons,not_or] at hx hm;rcases hx with h|h|h|h<;>simp_all
   refine⟨by have:=(hY x hy).1;have:=H.bl.size;omega,(hY x hy).2,fun e=>?_⟩;have:=(hol x e.symm).2;have:=(hY x hy).1;omega
theorem PO.less (H:PO w0 w Bb Hb Qb X A c body h ob qv queue pv pages):PO w0 w Bb Hb Qb [] A c body h ob qv queue pv pages:=by
 refine⟨H.bl,H.bb,H.bs,H.hb,H.qb,H.q,H.pg.mono (fun i hi _=>⟨hi.1,fun hm=>hi.2.1 ?_,hi.2.2⟩),?_,fun x hx=>H.ge x ?_⟩
 ·simp only[List.mem_cons] at hm ⊢;rcases hm with h|h|h|h<;>simp_all
 ·have:=H.nd;simp only[List.nodup_cons,List.mem_cons,not_or] at this ⊢;simp_all
 ·simp only[List.mem_cons] at hx ⊢;rcases hx with h|h|h|h<;>simp_all
theorem PO.page (H:PO w0 w Bb Hb Qb X A c body h ob qv queue pv pages){pv':Value}{d:PageP}(hg:w.grownBy w' pv.ownBlock)(h2:Own w' w0.heap.size 43 pv' (pages.map (Av.mk:PageP→Av PageP (PBk w0.heap.size (Bb::Hb::Qb::X) ob))++[⟨d⟩])) (hat:∀g,pv'.ownBlock=some g→pv.ownBlock=some g∨g=w.heap.size):PO w0 w' Bb Hb Qb X A c body h ob qv queue pv' (pages++[d]):=by
 have hpl:=H.pg.lt;have hpa:=H.pg.at_;have hsz:=hg.size;have hol:=H.q.lt;have hold:Kept (fun b=>b<w0.heap.size) w w':=Kept.grown hg (fun i hi e=>by have:=(hpl i e.symm).1;omega);have box:∀{x t cs},x∈Bb::Hb::Qb::X→ABox w x t cs→ABox w' x t cs:=fun {x t cs} hx hb=>(hg.block _ (H.ge _ hx).2.1 (fun e=>(hpa x e.symm).2.1 hx)).trans hb
 refine⟨H.bl.grown hg H.bl.size (fun k hk=>(hpl k hk).1),box (by simp) H.bb,H.bs.keep hold hsz,box (by simp) H.hb,box (by simp) H.qb,H.q.keptA hold (fun g hg' hl=>hg.block g hl (fun e=>(hpa g e.symm).2.2 hg'.symm)),H.pg.pushed h2 hat ⟨H.bl.size,fun hx=>by have:=(H.ge _ hx).2.1;omega,fun e=>by have:=(hol _ e.symm).2;omega⟩,H.nd,fun y hy=>⟨(H.ge y hy).1,by have:=(H.ge y hy).2.1;omega,(H.ge y hy).2.2⟩⟩
theorem PO.cut (H:PO w0 w Bb Hb Qb X A c body h ob qv queue pv pages){A':Option Addr}{c' n:Nat}{body':List LineP}{ob':Option Nat}{qv':Value}{queue':List LineP}(hbs:Sl w (fun b=>b<w0.heap.size) A' c' body')(hn:n=body'.length) (hq:Que w w0.heap.size 56 ob' qv' (queue'.map (Av.mk:LineP→OldL w0.heap.size))) (hob:ob'=none∨ob'=ob):
 PO w0 ((w.setCell ⟨Bb,0,none⟩ (.slice A' n c')).setCell ⟨Qb,0,none⟩ qv') Bb Hb Qb X A' c' body' h ob' qv' queue' pv pages:=by
 subst hn;have hn:=H.nd;simp only[List.nodup_cons,List.mem_cons,not_or] at hn;have n1:Bb≠Qb:=hn.1.2.1;have n2:Hb≠Qb:=hn.2.1.1;have n3:Hb≠Bb:=fun e=>hn.1.1 e.symm
 have n4:Qb≠Bb:=fun e=>n1 e.symm
 have gB:=H.ge Bb (by simp);have gQ:=H.ge Qb (by simp);have hold:Kept (fun b=>b<w0.heap.size) w ((w.setCell ⟨Bb,0,none⟩ (.slice A' body'.length c')).setCell ⟨Qb,0,none⟩ qv'):=fun i hi _=>(Qac _ Qb 0 _ (by omega)).trans (Qac w Bb 0 _ (by omega))
 have hne:∀x,some x≠ob→some x≠ob':=fun x hx=>by
  rcases hob with e|e
  ·rw[e];simp
  ·rw[e];exact hx
 have hpg:OwnP w w0.heap.size 43 pv pages (PBk w0.heap.size (Bb::Hb::Qb::X) ob'):=H.pg.mono (fun i hi _=>⟨hi.1,hi.2.1,hne i hi.2.2⟩)
 refine⟨(H.bl.setCell (p:=⟨Bb,0,none⟩) gB.1 _).setCell (p:=⟨Qb,0,none⟩) gQ.1 _,?_,hbs.keep hold (by simp),(H.hb.other n3 _ _).other n2 _ _,?_,hq.keptA hold (fun g hg' _=>?_),(hpg.set Bb 0 _ (fun i hi e=>hi.2.1 (by simp[e]))).set Qb 0 _ (fun i hi e=>hi.2.1 (by simp[e])),H.nd,fun y hy=>⟨(H.ge y hy).1,by have:=(H.ge y hy).2.1;simpa using this,hne y (H.ge y hy).2.2⟩⟩
 ·have:=(H.bb.set 0 (.slice A' body'.length c')).other n1 0 qv';simpa using this
 ·have:=(H.qb.other n4 0 (.slice A' body'.length c')).set 0 qv';simpa using this
 ·refine(Qac _ Qb 0 _ (fun e=>?_)).trans (Qac w Bb 0 _ (fun e=>?_))
  ·exact hne Qb gQ.2.2 (e▸hg'.symm)
  ·exact hne Bb gB.2.2 (e▸hg'.symm)
end
end Go.Proofs.YtegaapiocihcpaaGreatDoor
