/- Texts of BookC10. -/
import Derived.Test.YtakaielemicpkaaGreatDoorBZg6
set_option maxHeartbeats 16000000
namespace Go.Proofs.YtakaielemicpkaaGreatDoor
open Go.RowKit
def SP.txt (B:Nat)(a b:List (List Word)):SP:=⟨fun v w=>∃A c A' c',v=.agg #[.slice A a.length c,.slice A' b.length c']∧Rep.R w (Up B) [.slice A a.length c,.slice A' b.length c'] (⟨a,b⟩:TextP),fun _ _ _ h hb=>by
 obtain⟨A,c,A',c',h1,h2⟩:=h
 exact⟨A,c,A',c',h1,Rep.keep h2 (Kept.all hb)⟩⟩
theorem SP.txt_of {B:Nat}{a b:List (List Word)}{va vb:Value}{w:World}(h:Rep.R w (Up B) [va,vb] (⟨a,b⟩:TextP)):(SP.txt B a b).p (.agg #[va,vb]) w:=by
 obtain⟨x,y,e,h1,h2⟩:=id h;cases e;obtain⟨A,c,e1,-⟩:=h1;obtain⟨A',c',e2,-⟩:=h2;cases e1;cases e2;exact⟨A,c,A',c',rfl,h⟩
def SP.ownP {α:Type}[Rep α](B:Nat)(e:TypeId)(l:List α)(P:Nat→Prop):SP:=⟨fun v w=>OwnP w B e v l P,fun _ _ _ h hb=>h.below hb⟩
theorem QdB {α:Type}[Rep α]{w:World}{B:Nat}{cs:List Value}{t:TypeId}{x:α}(hB:B≤w.heap.size)(h:Rep.R w (Up B) cs x):(SP.rp B [x]).p (.slice (some ⟨w.heap.size,0,none⟩) 1 1) (w.alloc (.cells cs.toArray t)):=by
 refine⟨⟨_,_,rfl⟩,⟨_,_,rfl,Sl.block (l:=[x]) (heap_alloc_new w _) hB (by simp[maxLen]) (fun i hi=>?_),by simp⟩⟩;obtain rfl:i=0:=by simpa using hi
 have hl:=Rep.len h;have e:(cs.toArray.toList.drop (0*Rep.size α)).take (Rep.size α)=cs:=by
  rw[Nat.zero_mul,List.drop_zero,←hl];simp
 rw[e];exact Rep.keep h (Kept.all (bR.alloc nL _))
theorem rp_int {w:World}{B:Nat}{v:Int}{t:TypeId}(hB:B≤w.heap.size)(h:I64 v):(SP.rp B [v]).p (.slice (some ⟨w.heap.size,0,none⟩) 1 1) (w.alloc (.cells #[.int .i64 v] t)):=QdB (cs:=[.int .i64 v]) hB ⟨rfl,h⟩
set_option maxRecDepth 100000 in
theorem add_ok (A:Option Addr)(c:Nat)(l:List SectP)(m h entry version:Int)(A1 B1:Option Addr)(c1 d1:Nat)(a b:List (List Word))(w:World)(hT:Laid w)(hs:Sl w (fun b=>b<w.heap.size) A c l)(hsh:QaO l)(hwf:WfS l)(hI:I64 h) (ha:Sl w (fun b=>b<w.heap.size) A1 c1 a) (hb:Sl w (fun b=>b<w.heap.size) B1 d1 b) (hsa:Qam a) (hsb:Qam b) (hf:QaC l entry= -1) (he:0≤entry∧entry≤65535) (hv:0≤version∧version≤2147483647) (hE:Qau m h a b=0) (hln:l.length<1048576) (hpn:(Qac m h (l++[(⟨entry,false,[version],[⟨a,b⟩]⟩:SectP)])).length≤1000000000):
 Calls Tryz.prog 36 #[.agg #[.int .i64 m,.int .i64 h,.slice A l.length c],.int .i64 entry,.int .i64 version,.agg #[.slice A1 a.length c1,.slice B1 b.length d1]] w fun x W'=>∃v,x=.returned (QaV m h v (Qac m h (l++[(⟨entry,false,[version],[⟨a,b⟩]⟩:SectP)])).length)∧OwnP W' w.heap.size 45 v (l++[(⟨entry,false,[version],[⟨a,b⟩]⟩:SectP)]) (Up w.heap.size)∧Below w.heap.size w W':=by
 obtain⟨wb,hwb⟩:∃wb,((w.alloc (.cells #[.int .i64 m,.int .i64 h,.slice A l.length c] 27)).alloc (.cells #[.slice A1 a.length c1,.slice B1 b.length d1] 50)).alloc (.cells #[.int .i64 0,.int .i64 0,.slice none 0 0] 27)=wb:=⟨_,rfl⟩;have hba:Below w.heap.size w wb:=by rw[←hwb];exact((bR.alloc nL _).alloc (by simp) _).alloc (by simp;omega) _
 have hz:wb.heap.size=w.heap.size+3:=by rw[←hwb];simp
 have hx0:ABox wb w.heap.size 27 [.int .i64 m,.int .i64 h,.slice A l.length c]:=by rw[←hwb];exact(Below.heap_alloc _ _ _ (by simp;omega)).trans ((Below.heap_alloc _ _ _ (by simp)).trans (heap_alloc_new w _))
 have hx1:ABox wb (w.heap.size+1) 50 [.slice A1 a.length c1,.slice B1 b.length d1]:=by rw[←hwb];exact(Below.heap_alloc _ _ _ (by simp)).trans (Qai (by simp))
 have hx2:ABox wb (w.heap.size+2) 27 [.int .i64 0,.int .i64 0,.slice none 0 0]:=by rw[←hwb];exact Qai (by simp)
 have hl63:l.length≤1048576:=hsh.1;have HF:=Lh (QbX A c l m h entry wb (hs.to hba) (by omega))
 have HCL:Hid (∀W,Below wb.heap.size wb W→Calls Tryz.prog 58 #[.agg #[.int .i64 m,.int .i64 h,.slice A l.length c]] W fun e w'=>∃A5,e=.returned (.agg #[.int .i64 m,.int .i64 h,.slice A5 l.length l.length])∧OwnP w' W.heap.size 45 (.slice A5 l.length l.length) l (Up W.heap.size)∧Below W.heap.size W w'):=
  Lh fun W hW=>cloned_fit A c l m h W ((hs.to hba).to hW) hsh
 have HWR:Hid (∀W,Below wb.heap.size wb W→Calls Tryz.prog 68 #[.agg #[.int .i64 m,.int .i64 h,.slice A l.length c],.agg #[.slice A1 a.length c1,.slice B1 b.length d1]] W fun e w'=>e=.returned (.int .i64 0)∧Below W.heap.size W w'):=
  Lh fun W hW=>by
   have:=Qb6 A1 B1 c1 d1 a b m h (.slice A l.length c) rfl W ((hT.to hba).to hW) ((ha.to hba).to hW) ((hb.to hba).to hW) hI hsa.1 hsb.1;rwa [hE] at this
 have HTX:Hid (∀W,Below wb.heap.size wb W→Calls Tryz.prog 45 #[.agg #[.slice A1 a.length c1,.slice B1 b.length d1]] W fun e w'=>∃va vb,e=.returned (.agg #[va,vb])∧Rep.R w' (Up W.heap.size) [va,vb] (⟨a,b⟩:TextP)∧Below W.heap.size W w'):=
  Lh fun W hW=>Qda A1 B1 c1 d1 a b W ((ha.to hba).to hW) ((hb.to hba).to hW) hsa hsb
 have HW:Hid (∀n lo hi W,lo≤n∧n≤hi→Calls Tryz.prog 48 #[.int .i64 n,.int .i64 lo,.int .i64 hi] W fun e w'=>e=.returned (.bool true)∧W=w'):=Lh fun n lo hi W hn=>by
  have:=Qa2 n lo hi W;rwa [decide_eq_true hn] at this
 have HE1:=Lh he;have HV1:=Lh hv
 have HSH:Hid (QaO (l++[(⟨entry,false,[version],[⟨a,b⟩]⟩:SectP)])):=Lh ⟨by rw[qA,List.length_singleton];omega,fun s hs=>by
  rcases List.mem_append.1 hs with h|h
  ·exact hsh.2 s h
  ·rw[List.mem_singleton] at h
   subst h
   exact⟨by simp,by simp,fun t ht=>by rw[List.mem_singleton] at ht;subst ht;exact⟨hsa,hsb⟩⟩⟩
 have HWF:Hid (WfS (l++[(⟨entry,false,[version],[⟨a,b⟩]⟩:SectP)])):=Lh (fun s hs=>by
  rcases List.mem_append.1 hs with h|h
  ·exact hwf s h
  ·rw[List.mem_singleton] at h
   subst h
   simp)
 have HLA:=Lh (hT.to hba);have HI:=Lh hI;have HIV:Hid (I64 version):=Lh (by unfold I64;omega);have HIE:Hid (I64 entry):=Lh (by unfold I64;omega);have HPN:=Lh hpn;have HX0:=Lh hx0;have HX1:=Lh hx1;have HX2:=Lh hx2;have HB:=Lh hba;have HZ:=Lh hz;have HWB:=Lh hwb;have k0:=hx0.cell 0 rfl;have k1:=hx0.cell 1 rfl;have k2:=hx0.cell 2 rfl;clear hs hsh hwf hI ha hb hsa hsb he hv hE hpn hT hba hx0 hx1 hx2 hwb hz;rw[hf] at HF;clear hf;go_enter Tryz.func36,Tryz.ntmps36;go_upto_region 1 with(fail);rw[HWB.out]
 go_upto_region 9 with(first
  |(go_at_call 43;refine HF.out.mono ?_;rintro e w1 ⟨rfl,hb1⟩;have HB1:=Lh hb1;have HX01:=Lh (HX0.out.to hb1);have HX11:=Lh (HX1.out.to hb1);clear hb1 k0 k1 k2;have k0:=HX01.out.cell 0 rfl;have k1:=HX01.out.cell 1 rfl;have k2:=HX01.out.cell 2 rfl;have e0:=HX11.out.cell 0 rfl;have e1:=HX11.out.cell 1 rfl)
  |(go_at_call 48;refine(HW.out _ _ _ _ (by first|exact HE1.out|exact HV1.out)).mono ?_;rintro e w9 ⟨rfl,rfl⟩)
  |(go_at_call 68;refine(HWR.out _ HB1.out).mono ?_;rintro e w2 ⟨rfl,hb2⟩;have HB2:=Lh hb2;have HX02:=Lh (HX01.out.to hb2);clear hb2 k0 k1 k2 e0 e1;have k0:=HX02.out.cell 0 rfl;have k1:=HX02.out.cell 1 rfl;have k2:=HX02.out.cell 2 rfl)
  |(go_at_call 58;refine(HCL.out _ (HB1.out.trans (HB2.out.mono HB1.out.size))).mono ?_;rintro e w3 ⟨A5,rfl,ho,hb3⟩;have HO:=Lh ho;have HB3:=Lh hb3;clear ho hb3 k0 k1 k2)
  |fail)
 obtain⟨w4,hw4⟩:∃w4,w3.alloc (.cells #[.int .i64 m,.int .i64 h,.slice A5 l.length l.length] 27)=w4:=⟨_,rfl⟩;have hb4:Below w3.heap.size w3 w4:=by rw[←hw4];exact bR.alloc nL _
 have hx4:ABox w4 w3.heap.size 27 [.int .i64 m,.int .i64 h,.slice A5 l.length l.length]:=by rw[←hw4];exact heap_alloc_new w3 _
 have hz4:w4.heap.size=w3.heap.size+1:=by rw[←hw4];simp
 rw[hw4];clear hw4;have HS:Hid (w.heap.size+3≤w2.heap.size∧w2.heap.size≤w3.heap.size∧w4.heap.size=w3.heap.size+1):=Lh ⟨by have:=HZ.out;have:=HB1.out.size;have:=HB2.out.size;omega,HB3.out.size,hz4⟩;have HBW4:Hid (Below wb.heap.size wb w4):=Lh (((HB1.out.trans (HB2.out.mono HB1.out.size)).trans (HB3.out.mono (by have:=HB1.out.size;have:=HB2.out.size;omega))).trans (hb4.mono (by have:=HB1.out.size;have:=HB2.out.size;have:=HB3.out.size;omega)));have HX4:=Lh hx4;have HX14:=Lh (HX1.out.to HBW4.out);have HX24:=Lh (HX2.out.to HBW4.out);obtain⟨PB,hPB⟩:∃PB:Nat→Prop,PB=fun i=>w2.heap.size≤i∧i≠w3.heap.size:=⟨_,rfl⟩
 have HPB:=Lh hPB;have HO4:Hid (OwnP w4 w2.heap.size 45 (.slice A5 l.length l.length) l PB):=Lh ((HO.out.mono (fun i hi hl=>by rw[hPB];exact⟨hi,by omega⟩)).below hb4);obtain⟨base,hbase⟩:∃base,w2.heap.size=base:=⟨_,rfl⟩;obtain⟨ob,hob⟩:∃ob,w3.heap.size=ob:=⟨_,rfl⟩;rw[hbase] at HPB HO4 HS;rw[hob] at HPB HS HX4 ⊢;clear hb4 hx4 hz4 hPB HO HB3 HB2 HB1 HX01 HX11 HX02 HX0 HX1 HX2 HF HCL HWR HW HE1 HV1 HWB hbase hob;refine Qaj [4,6,7,9,10] (fun i=>if i=4 then SP.rp w4.heap.size [version] else if i=6 then SP.txt w4.heap.size a b else if i=7 then SP.rp w4.heap.size [(⟨a,b⟩:TextP)] else if i=9 then SP.rp w4.heap.size [(⟨entry,false,[version],[⟨a,b⟩]⟩:SectP)] else if i=10 then SP.ownP base 45 (l++[(⟨entry,false,[version],[⟨a,b⟩]⟩:SectP)]) PB else SP.any) 12 (by kernel_rfl) (by kernel_rfl) ?_;intro T _ g hg hgm;have q0:∀d,(g d).cell? ⟨ob,2,none⟩=some (.slice A5 l.length l.length):=fun d=>(HX4.out.to (hg d)).cell 2 rfl
 have q1:∀d,(g d).cell? ⟨w.heap.size+1,0,none⟩=some (.slice A1 a.length c1):=fun d=>(HX14.out.to (hg d)).cell 0 rfl
 have q2:∀d,(g d).cell? ⟨w.heap.size+1,1,none⟩=some (.slice B1 b.length d1):=fun d=>(HX14.out.to (hg d)).cell 1 rfl
 (repeat(refine Qah (by rfl) fun Kq hq=>?_;go_big_quiet_step (fail);refine wpQuiet_nil (hq _ ?_);clear hq Kq));refine Qap (by rfl) (by rfl) (fun d hG K Q hK=>?_) (fun v4 d hG hp Kr hr=>?_)
 ·go_simp;exact hK _ _ (bR.alloc nL _) (rp_int (hg d).size HIV.out)
 obtain⟨⟨A4,c4,rfl⟩,-⟩:=(show(∃A c,v4=.slice A [version].length c)∧Rep.R (g d) (Up w4.heap.size) [v4] [version] from hp);(try clear hp);clear hG;go_frame;refine hr _ ?_;clear hr Kr;(repeat(refine Qah (by rfl) fun Kq hq=>?_;go_big_quiet_step (fail);refine wpQuiet_nil (hq _ ?_);clear hq Kq));refine Qap (by rfl) (by rfl) (fun d hG K Q hK=>?_) (fun v6 d hG hp Kr hr=>?_)
 ·go_simp;go_at_call 45;refine(HTX.out (g d) (HBW4.out.trans ((hg d).mono HBW4.out.size))).mono ?_;rintro e W1 ⟨va,vb,rfl,hr1,hb1⟩;go_simp;exact hK _ _ hb1 (SP.txt_of (Rep.mono hr1 (fun i hi _=>Nat.le_trans (hg d).size hi)))
 obtain⟨A6,c6,B6,d6,rfl,-⟩:=(show ∃A c A' c',v6=.agg #[.slice A a.length c,.slice A' b.length c']∧_ from hp);(try clear hp);clear hG;go_frame;refine hr _ ?_;clear hr Kr;refine Qap (by rfl) (by rfl) (fun d hG K Q hK=>?_) (fun v7 d hG hp Kr hr=>?_)
 ·have H6:Hid (Rep.R (g d) (Up w4.heap.size) [.slice A6 a.length c6,.slice B6 b.length d6] (⟨a,b⟩:TextP)):=Lh (by
   obtain⟨A,c,A',c',e,hr⟩:=(show ∃A c A' c',Value.agg #[.slice A6 a.length c6,.slice B6 b.length d6]=.agg #[.slice A a.length c,.slice A' b.length c']∧Rep.R (g d) (Up w4.heap.size) [.slice A a.length c,.slice A' b.length c'] (⟨a,b⟩:TextP) from hG 6 (by kernel_rfl))
   cases e
   exact hr)
  go_simp;exact hK _ _ (bR.alloc nL _) (QdB (hg d).size H6.out)
 obtain⟨⟨A7,c7,rfl⟩,-⟩:=(show(∃A c,v7=.slice A [(⟨a,b⟩:TextP)].length c)∧_ from hp);(try clear hp);clear hG;go_frame;refine hr _ ?_;clear hr Kr;(repeat(refine Qah (by rfl) fun Kq hq=>?_;go_big_quiet_step (fail);refine wpQuiet_nil (hq _ ?_);clear hq Kq));refine Qap (by rfl) (by rfl) (fun d hG K Q hK=>?_) (fun v9 d hG hp Kr hr=>?_)
 ·have H4:Hid (Rep.R (g d) (Up w4.heap.size) [.slice A4 [version].length c4] [version]):=Lh (show(∃A c,_=Value.slice A [version].length c)∧Rep.R (g d) (Up w4.heap.size) [.slice A4 [version].length c4] [version] from hG 4 (by kernel_rfl)).2;have H7:Hid (Rep.R (g d) (Up w4.heap.size) [.slice A7 [(⟨a,b⟩:TextP)].length c7] [(⟨a,b⟩:TextP)]):=Lh (show(∃A c,_=Value.slice A [(⟨a,b⟩:TextP)].length c)∧Rep.R (g d) (Up w4.heap.size) [.slice A7 [(⟨a,b⟩:TextP)].length c7] [(⟨a,b⟩:TextP)] from hG 7 (by kernel_rfl)).2;go_simp;exact hK _ _ (bR.alloc nL _) (QdB (x:=(⟨entry,false,[version],[⟨a,b⟩]⟩:SectP)) (hg d).size ⟨_,_,rfl,HIE.out,H4.out,H7.out⟩)
 obtain⟨⟨A9,c9,rfl⟩,-⟩:=(show(∃A c,v9=.slice A [(⟨entry,false,[version],[⟨a,b⟩]⟩:SectP)].length c)∧_ from hp);(try clear hp);clear hG;go_frame;refine hr _ ?_;clear hr Kr;(repeat(refine Qah (by rfl) fun Kq hq=>?_;go_big_quiet_step (fail);refine wpQuiet_nil (hq _ ?_);clear hq Kq));refine Qap (by rfl) (by rfl) (fun d hG K Q hK=>?_) (fun v10 d hG hp Kr hr=>?_)
 ·have H9:Hid (Rep.R (g d) (Up w4.heap.size) [.slice A9 [(⟨entry,false,[version],[⟨a,b⟩]⟩:SectP)].length c9] [(⟨entry,false,[version],[⟨a,b⟩]⟩:SectP)]):=Lh (show(∃A c,_=Value.slice A [(⟨entry,false,[version],[⟨a,b⟩]⟩:SectP)].length c)∧Rep.R (g d) (Up w4.heap.size) [.slice A9 [(⟨entry,false,[version],[⟨a,b⟩]⟩:SectP)].length c9] [(⟨entry,false,[version],[⟨a,b⟩]⟩:SectP)] from hG 9 (by kernel_rfl)).2;have HOd:=Lh (HO4.out.below (hg d))
  have HSd:Hid (Sl (g d) (fun b=>b<(g d).heap.size) A5 l.length (l.map (Av.mk:SectP→Av SectP PB))):=Lh (by
   obtain⟨A,c,e,hs⟩:=HOd.out.sl
   cases e
   exact(hs.av (fun i hi _=>hi)).mono (fun i hi hl=>hl))
  have HNd:Hid (Sl (g d) (fun b=>b<(g d).heap.size) A9 c9 [(⟨(⟨entry,false,[version],[⟨a,b⟩]⟩:SectP)⟩:Av SectP PB)]):=Lh (by
   obtain⟨A,c,e,hs,-⟩:=H9.out
   cases e
   refine Sl.mono (Sl.av (α:=SectP) (P:=PB) hs (fun i hi _=>?_)) (fun i hi hl=>hl)
   have hi:w4.heap.size≤i:=hi
   have:=HS.out
   rw[HPB.out]
   exact⟨by omega,by omega⟩)
  clear H9;refine wp_fresh (α:=Av SectP PB) (.tmp 36) (.tmp 44) 25 rfl 45 (.agg #[.int .i64 0,.bool false,.slice none 0 0,.slice none 0 0]) 64 Tryz.underlying25 QaL rfl (show 0<4 by decide) A5 l.length (l.map Av.mk) rfl (by rw[qM]) HSd.out A9 c9 1 [⟨(⟨entry,false,[version],[⟨a,b⟩]⟩:SectP)⟩] rfl rfl HNd.out (by omega) (by omega) (by omega) ?_;intro v' w' ho' hb';refine hK _ _ hb' (show OwnP w' base 45 v' (l++[(⟨entry,false,[version],[⟨a,b⟩]⟩:SectP)]) PB from⟨?_,fun q hq=>?_⟩)
  ·rw[List.map_append];exact ho'.re (by have:=HS.out;have:=(hg d).size;omega)
  ·have h1:=(ho'.lt q hq).1;have:=HS.out;have:=(hg d).size;rw[HPB.out];exact⟨by omega,by omega⟩
 obtain⟨A10,c10,rfl,-,-⟩:=(show OwnP (g d) base 45 v10 (l++[(⟨entry,false,[version],[⟨a,b⟩]⟩:SectP)]) PB from hp).len;(try clear hp);clear hG;go_frame;refine hr _ ?_;clear hr Kr;(repeat(refine Qah (by rfl) fun Kq hq=>?_;go_big_quiet_step (fail);refine wpQuiet_nil (hq _ ?_);clear hq Kq));refine Qbn 1 (by rfl) (by rfl) (fun d hG=>?_);have HOd:Hid (OwnP (g d) base 45 (.slice A10 (l++[(⟨entry,false,[version],[⟨a,b⟩]⟩:SectP)]).length c10) (l++[(⟨entry,false,[version],[⟨a,b⟩]⟩:SectP)]) PB):=Lh (hG 10);have HXd:=Lh (HX4.out.to (hg d));have HX2d:=Lh (HX24.out.to (hg d));have HBd:Hid (Below wb.heap.size wb (g d)):=Lh (HBW4.out.trans ((hg d).mono HBW4.out.size));have HSd:Hid (w4.heap.size≤(g d).heap.size):=Lh (hg d).size;clear q0 q1 q2 hG hg hgm HX4 HX14 HX24 HBW4 HO4;generalize g d=wx at*;clear g;have y0:=HXd.out.cell 2 rfl;have y1:=HXd.out.fz 2;refine Qay (i:=12) (oi:=_) rfl (by kernel_rfl) (by rfl) (fun K hK=>?_);go_simp;refine hK _ _ ?_;clear hK K;(try go_frame);refine wpAny_done (by kernel_rfl) ?_ _;unfold Exit.then;obtain⟨L,hL⟩:∃L,l++[(⟨entry,false,[version],[⟨a,b⟩]⟩:SectP)]=L:=⟨_,rfl⟩;have hLn:l.length+1=L.length:=by rw[←hL];simp
 rw[hLn];rw[hL] at HOd HSH HWF HPN;have HL:=Lh hL;clear hL hLn y0 y1;have HSx:=HS.out;obtain⟨wy,hwy⟩:∃wy,wx.setCell ⟨ob,2,none⟩ (.slice A10 L.length c10)=wy:=⟨_,rfl⟩;have HOy:Hid (OwnP wy base 45 (.slice A10 L.length c10) L PB):=Lh (by rw[←hwy];exact HOd.out.set ob 2 _ (fun i hi=>by rw[HPB.out] at hi;exact hi.2));have HXy:Hid (ABox wy ob 27 [.int .i64 m,.int .i64 h,.slice A10 L.length c10]):=Lh (by rw[←hwy];exact HXd.out.set 2 _);have HX2y:Hid (ABox wy (w.heap.size+2) 27 [.int .i64 0,.int .i64 0,.slice none 0 0]):=Lh (by rw[←hwy];exact HX2d.out.other (by omega) _ _);have HBy:Hid (Below wb.heap.size wb wy):=Lh (by rw[←hwy];exact HBd.out.setCell (p:=⟨ob,2,none⟩) (by show wb.heap.size≤ob;have:=HZ.out;omega) _)
 have HOK:Hid (BookOk wy m h A10 c10 L):=Lh ⟨HLA.out.to HBy.out,by
  obtain⟨A,c,e,hs⟩:=HOy.out.sl
  cases e
  exact hs.mono (fun i _ hl=>hl),HSH.out,HWF.out,HI.out,HPN.out⟩
 have HFI:=Lh (Qei HOK.out);have k0:=HXy.out.cell 0 rfl;have k1:=HXy.out.cell 1 rfl;have k2:=HXy.out.cell 2 rfl;rw[hwy];clear hwy HOd HXd HX2d HBd HSH HWF HOK;obtain⟨np,hnp⟩:∃np,(Qac m h L).length=np:=⟨_,rfl⟩;rw[hnp] at HFI;have HNP:=Lh hnp;clear hnp HPN;by_cases hn:16384<np
 ·have hfv:∀v,QaV m h v np=.tuple #[.agg #[.int .i64 0,.int .i64 0,.slice none 0 0],.int .i64 2]:=fun v=>by unfold QaV;rw[if_pos hn]
  have HFV:=Lh hfv;rw[hfv] at HFI;clear hfv hn
  go_wp2_with (first
   |(go_at_call 69;refine HFI.out.mono ?_;rintro e w7 ⟨rfl,hb7⟩;have HB7:=Lh hb7;have HX27:=Lh (HX2y.out.to hb7);clear hb7 k0 k1 k2;have k0:=HX27.out.cell 0 rfl;have k1:=HX27.out.cell 1 rfl;have k2:=HX27.out.cell 2 rfl;have f0:=HX27.out.fz 0;have f1:=HX27.out.fz 1;have f2:=HX27.out.fz 2)
   |fail)
  have hn1:∀i,PB i→i≠w.heap.size+2:=fun i hi=>by rw[HPB.out] at hi;omega
  exact bodyPost_ret (v:=.tuple #[.agg #[.int .i64 0,.int .i64 0,.slice none 0 0],.int .i64 2]) (Qab Tryz.results36 _ _ (w.heap.size+2) _ #[.int .i64 0,.int .i64 0,.slice none 0 0] (0,0) _ rfl (Qax HX27.out _ _ _) Tryz.underlying27 rfl (by kernel_rfl)) rfl ⟨.slice A10 L.length c10,by rw[HL.out,HNP.out,HFV.out],by rw[HL.out];exact Qcz ((((HOy.out.below HB7.out).set (w.heap.size+2) 0 _ hn1).set (w.heap.size+2) 1 _ hn1).set (w.heap.size+2) 2 _ hn1 |>.mono (Q:=Up base) (fun i hi _=>by rw[HPB.out] at hi;exact hi.1)) (by omega),below3 ((HB.out.trans (HBy.out.mono HB.out.size)).trans (HB7.out.mono (by have:=HB.out.size;have:=HBy.out.size;omega))) (by omega) _ _ _⟩
 ·have hfv:∀v,QaV m h v np=.tuple #[.agg #[.int .i64 m,.int .i64 h,v],.int .i64 0]:=fun v=>by unfold QaV;rw[if_neg hn]
  have HFV:=Lh hfv;rw[hfv] at HFI;clear hfv hn
  go_wp2_with (first
   |(go_at_call 69;refine HFI.out.mono ?_;rintro e w7 ⟨rfl,hb7⟩;have HB7:=Lh hb7;have HX27:=Lh (HX2y.out.to hb7);clear hb7 k0 k1 k2;have k0:=HX27.out.cell 0 rfl;have k1:=HX27.out.cell 1 rfl;have k2:=HX27.out.cell 2 rfl;have f0:=HX27.out.fz 0;have f1:=HX27.out.fz 1;have f2:=HX27.out.fz 2)
   |fail)
  have hn1:∀i,PB i→i≠w.heap.size+2:=fun i hi=>by rw[HPB.out] at hi;omega
  exact bodyPost_ret (v:=.tuple #[.agg #[.int .i64 m,.int .i64 h,.slice A10 L.length c10],.int .i64 0]) (Qab Tryz.results36 _ _ (w.heap.size+2) _ #[.int .i64 m,.int .i64 h,.slice A10 L.length c10] (0,0) _ rfl (Qax HX27.out _ _ _) Tryz.underlying27 rfl (by kernel_rfl)) rfl ⟨.slice A10 L.length c10,by rw[HL.out,HNP.out,HFV.out],by rw[HL.out];exact Qcz ((((HOy.out.below HB7.out).set (w.heap.size+2) 0 _ hn1).set (w.heap.size+2) 1 _ hn1).set (w.heap.size+2) 2 _ hn1 |>.mono (Q:=Up base) (fun i hi _=>by rw[HPB.out] at hi;exact hi.1)) (by omega),below3 ((HB.out.trans (HBy.out.mono HB.out.size)).trans (HB7.out.mono (by have:=HB.out.size;have:=HBy.out.size;omega))) (by omega) _ _ _⟩
def idxP (l:List Int)(v:Int):Int:=if l.findIdx (fun x=>decide (x=v))<l.length then(l.findIdx (fun x=>decide (x=v)):Int) else -1
theorem idxP_hit {l:List Int}{v:Int}{k:Nat}(hk:k<l.length)(h:l[k]=v)(hn:∀i (hi:i<k),(l[i]'(by omega))≠v):idxP l v=(k:Int):=by
 have:l.findIdx (fun x=>decide (x=v))=k:=(List.findIdx_eq hk).2 ⟨by simp[h],fun i hi=>by simpa using hn i hi⟩;unfold idxP;rw[this,if_pos hk]
theorem idxP_none {l:List Int}{v:Int}(hn:∀i (hi:i<l.length),l[i]≠v):idxP l v= -1:=by
 have:l.findIdx (fun x=>decide (x=v))=l.length:=by
  rw[List.findIdx_eq_length];intro x hx;obtain⟨i,hi,rfl⟩:=List.mem_iff_getElem.1 hx;simpa using hn i hi
 unfold idxP;rw[this,if_neg (by omega)]
theorem idxP_mem (l:List Int)(v:Int):decide (idxP l v≥0)=decide (v∈l):=by
 by_cases h:v∈l
 ·have:l.findIdx (fun x=>decide (x=v))<l.length:=List.findIdx_lt_length_of_exists ⟨v,h,by simp⟩;rw[decide_eq_true h,idxP,if_pos this];exact decide_eq_true (by omega)
 ·rw[decide_eq_false h,idxP_none (fun i hi e=>h (by rw[←e];exact List.getElem_mem hi))];rfl
set_option maxRecDepth 100000 in
theorem indexI_any (A:Option Addr)(c:Nat)(l:List Int)(v:Int)(w:World)(hs:Sl w (fun b=>b<w.heap.size) A c l)(h63:l.length≤1073741824):
 Calls Tryz.prog 44 #[.slice A l.length c,.int .i64 v] w fun x w'=>x=.returned (.int .i64 (idxP l v))∧w=w':=by
 have HS:=Lh hs;clear hs;go_enter Tryz.func44,Tryz.ntmps44;go_wp2_with fail;go_loopw [5,8] (fun _ i wr=>wr=w∧∃k:Nat,k≤l.length∧i=.int .i64 k∧Hid (∀i (hi:i<l.length),i<k→l[i]≠v)) (fun _ i _=>l.length-(intOf i).toNat);(case atStart=>exact⟨rfl,0,Nat.zero_le _,rfl,Lh (fun i hi h=>absurd h (Nat.not_lt_zero _))⟩);case round=>
  obtain⟨hw9,k,hk,rfl,HN⟩:=hrel;subst hw9;by_cases hlt:k<l.length
  ·obtain⟨b,o,rfl,-,-,-,k0⟩:=Qa8 HS.out hlt;have hkl:(k:Int)<(l.length:Int):=(by omega);have hk0:(0:Int)≤(k:Int):=(by omega);have hlc:l.length≤c:=HS.out.1;have HX:Hid (∃x,l[k]=x):=Lh ⟨_,rfl⟩;obtain⟨x,hx⟩:=HX.out;have HXE:=Lh hx;rw[hx] at k0;clear hx HX;by_cases hq:v=x
   ·subst hq;have HF:Hid (idxP l v=(k:Int)):=Lh (idxP_hit hlt HXE.out (fun i hi=>HN.out i (by omega) hi));go_wp2_with fail;go_ret;exact⟨by rw[HF.out];rfl,by first|rfl|trivial⟩
   ·have hqb:(v==x)=false:=by rw[beq_eq_false_iff_ne];exact hq
    have HN2:Hid (∀i (hi:i<l.length),i<k+1→l[i]≠v):=Lh (fun i hi h=>by
     by_cases hik:i=k
     ·subst hik;rw[HXE.out];exact fun e=>hq e.symm
     ·exact HN.out i hi (by omega))
    clear hq;go_wp2_with fail;go_roundw;(case rel=>exact⟨trivial,k+1,by omega,by go_num,HN2⟩);case measure=>simp[intOf];omega
  ·have HF:Hid (idxP l v= -1):=Lh (idxP_none fun i hi=>HN.out i hi (by omega));go_wp2_with fail;go_ret;exact⟨by rw[HF.out];rfl,by first|rfl|trivial⟩
set_option maxRecDepth 100000 in
theorem QbK (A:Option Addr)(c:Nat)(l:List Int)(v:Int)(w:World)(hs:Sl w (fun b=>b<w.heap.size) A c l)(h63:l.length≤1073741824):
 Calls Tryz.prog 70 #[.slice A l.length c,.int .i64 v] w fun x w'=>x=.returned (.bool (decide (v∈l)))∧w=w':=by
 have HI:=Lh (indexI_any A c l v w hs h63);have HM:=Lh (idxP_mem l v);clear hs;go_enter Tryz.func70,Tryz.ntmps70
 go_wp2_with (first|(go_at_call 44;refine HI.out.mono ?_;rintro e w1 ⟨rfl,rfl⟩)|fail)
 go_ret;exact⟨by rw[←HM.out];rfl,by first|rfl|trivial⟩
structure CK (W:World)(g:Nat)(rows:List SC)(l:List SectP)(k:Nat)(s:SectP)(v1 v2:Value):Prop where
 own:Own W g 45 (.slice (some ⟨g,0,none⟩) l.length l.length) rows
 len:rows.length=l.length
 row:rows[k]? =some ⟨s.entry,s.frozen,v1,v2⟩
 sec:l[k]? =some s
 f:∀i (h1:i<rows.length) (h2:i<l.length),rows[i].e=l[i].entry∧rows[i].f=l[i].frozen∧I64 l[i].entry
 o:∀i (h1:i<rows.length) (h2:i<l.length),i≠k→Rep.R W (Off g v1) [rows[i].v1] l[i].vers∧Rep.R W (Off g v1) [rows[i].v2] l[i].texts
 ko:Own W (g+1) 3 v1 s.vers
 kt:Rep.R W (Off g v1) [v2] s.texts
 kc:∃A,v2=.slice A s.texts.length s.texts.length
section
variable {W W':World} {g k:Nat} {rows:List SC} {l:List SectP} {s:SectP} {v1 v2:Value}
theorem CX.ck (h:CX W g rows l l.length)(hk:k<l.length):∃v1 v2,CK W g rows l k l[k] v1 v2:=by
 have hkr:k<rows.length:=by rw[h.cs.len];exact hk
 obtain⟨a1,a2,a3,-,-⟩:=h.cs.f k hkr hk;have e:rows[k]=⟨l[k].entry,l[k].frozen,rows[k].v1,rows[k].v2⟩:=by rw[←a1,←a2]
 exact⟨rows[k].v1,rows[k].v2,h.cs.own,h.cs.len,by rw[qG hkr,e],qG hk,fun i h1 h2=>⟨(h.cs.f i h1 h2).1,(h.cs.f i h1 h2).2.1,(h.cs.f i h1 h2).2.2.1⟩,fun i h1 h2 hik=>⟨(h.ap k hkr hk hk i h1 h2 h2).1 (Ne.symm hik),(h.ap k hkr hk hk i h1 h2 h2).2⟩,(h.vo k hkr hk hk).1,(h.ap k hkr hk hk k hkr hk hk).2,(h.vo k hkr hk hk).2⟩
theorem CK.lt (h:CK W g rows l k s v1 v2):k<l.length:=(List.getElem?_eq_some_iff.1 h.sec).1
theorem CK.glt (h:CK W g rows l k s v1 v2):g<W.heap.size:=(h.own.lt g rfl).2
theorem CK.off (h:CK W g rows l k s v1 v2):some g≠v1.ownBlock:=fun e=>by have:=(h.ko.lt g e.symm).1;omega
theorem CK.to (h:CK W g rows l k s v1 v2)(hb:Below W.heap.size W W'):CK W' g rows l k s v1 v2:=
 ⟨h.own.below hb,h.len,h.row,h.sec,h.f,fun i h1 h2 hik=>⟨Rep.keep (h.o i h1 h2 hik).1 (Kept.all hb),Rep.keep (h.o i h1 h2 hik).2 (Kept.all hb)⟩,h.ko.below hb,Rep.keep h.kt (Kept.all hb),h.kc⟩
theorem CK.cells (h:CK W g rows l k s v1 v2):
 W.cell? ⟨g,k*4,none⟩=some (.int .i64 s.entry)∧W.cell? ⟨g,k*4+1,none⟩=some (.bool s.frozen)∧W.cell? ⟨g,k*4+2,none⟩=some v1∧W.cell? ⟨g,k*4+3,none⟩=some v2∧∀o,W.frozen? ⟨g,o,none⟩=false:=by
 have hkr:k<rows.length:=(List.getElem?_eq_some_iff.1 h.row).1;have e:=(List.getElem?_eq_some_iff.1 h.row).2;obtain⟨g',cap,es,e1,-,-,-,hr,hc,hf⟩:=h.own.at_ (k:=k) hkr;injection e1 with q1 _ _
 injection q1 with q1
 injection q1 with q1 _ _
 subst q1;rw[e] at hr;obtain⟨rfl,-,-⟩:=hr;exact⟨hc 0 _ rfl,hc 1 _ rfl,hc 2 _ rfl,hc 3 _ rfl,hf⟩
theorem CK.reset (h:CK W g rows l k s v1 v2):∃rows',CK ((W.setCell ⟨g,k*4+2,none⟩ (.slice none 0 0)).setCell ⟨g,k*4+3,none⟩ (.slice none 0 0)) g rows' (l.set k {s with vers:=[],texts:=[]}) k {s with vers:=[],texts:=[]} (.slice none 0 0) (.slice none 0 0):=by
 have hkr:k<rows.length:=(List.getElem?_eq_some_iff.1 h.row).1;have e:=(List.getElem?_eq_some_iff.1 h.row).2;have hk:=h.lt;have es:=(List.getElem?_eq_some_iff.1 h.sec).2;obtain⟨a2,b3⟩:=rows_set h.own hkr (v1:=.slice none 0 0) (v2:=.slice none 0 0) rfl rfl;have kp:Kept (fun b=>g<b) W ((W.setCell ⟨g,k*4+2,none⟩ (.slice none 0 0)).setCell ⟨g,k*4+3,none⟩ (.slice none 0 0)):=Kept.grown b3 (fun i hi e=>by have h:g<i:=hi;injection e with e;omega);have far:∀b,Off g v1 b→Off g (.slice none 0 0) b:=fun b hb=>⟨hb.1,by simp[Value.ownBlock]⟩
 refine⟨_,by rw[List.length_set];exact a2,by rw[List.length_set,List.length_set];exact h.len,by rw[List.getElem?_set_self hkr,e],by rw[List.getElem?_set_self hk],fun i h1 h2=>?_,fun i h1 h2 hik=>?_,Own.nil _ _ _,⟨none,0,rfl,Sl.nil _ _ _ _ (by simp[maxLen]),by simp⟩,⟨none,rfl⟩⟩
 ·rw[List.length_set] at h1 h2;have hf:=h.f i h1 h2;by_cases hik:k=i
  ·subst hik;rw[List.getElem_set_self,List.getElem_set_self];rw[es] at hf;exact hf
  ·rw[List.getElem_set_ne hik,List.getElem_set_ne hik];exact hf
 ·rw[List.length_set] at h1 h2;have ho:=h.o i h1 h2 hik;rw[List.getElem_set_ne (Ne.symm hik),List.getElem_set_ne (Ne.symm hik)];exact⟨Rep.keep (Rep.mono ho.1 (fun b hb _=>far b hb)) (kp.mono fun b hb=>hb.1),Rep.keep (Rep.mono ho.2 (fun b hb _=>far b hb)) (kp.mono fun b hb=>hb.1)⟩
theorem CK.fin (h:CK W g rows l k s v1 v2)(hk:Kept (fun b=>g≤b∧some b≠v1.ownBlock) W W'){u1 u2:Value}{vs:List Int}{ts:List TextP}(h1:Own W' (g+1) 3 u1 vs)(h2:Rep.R W' (fun b=>g<b) [u2] ts):
 OwnP ((W'.setCell ⟨g,k*4+2,none⟩ u1).setCell ⟨g,k*4+3,none⟩ u2) g 45 (.slice (some ⟨g,0,none⟩) l.length l.length) (l.set k ⟨s.entry,s.frozen,vs,ts⟩) (Up g)∧W'.grownBy ((W'.setCell ⟨g,k*4+2,none⟩ u1).setCell ⟨g,k*4+3,none⟩ u2) (some g):=by
 have hkr:k<rows.length:=(List.getElem?_eq_some_iff.1 h.row).1;have e:=(List.getElem?_eq_some_iff.1 h.row).2;have hkl:=h.lt;have es:=(List.getElem?_eq_some_iff.1 h.sec).2
 have hv1:Rep.R W' (fun b=>g<b) [u1] vs:=by
  obtain⟨A,c,e,-⟩:=h1.form;subst e;exact QaZ h1 rfl (fun b hb=>hb)
 have o1:=Rep.one hv1 u1 (by simp);have o2:=Rep.one h2 u2 (by simp);have own':Own W' g 45 (.slice (some ⟨g,0,none⟩) l.length l.length) rows:=h.own.at_blocks (fun q hq eq=>by cases eq;exact hk g ⟨Nat.le_refl _,h.off⟩ hq);obtain⟨a2,b3⟩:=rows_set own' hkr (v1:=u1) (v2:=u2) o1 o2;refine⟨?_,b3⟩;have kp:Kept (fun b=>g<b) W' ((W'.setCell ⟨g,k*4+2,none⟩ u1).setCell ⟨g,k*4+3,none⟩ u2):=Kept.grown b3 (fun i hi e=>by have h:g<i:=hi;injection e with e;omega);have hcs:CS ((W'.setCell ⟨g,k*4+2,none⟩ u1).setCell ⟨g,k*4+3,none⟩ u2) g (rows.set k ⟨rows[k].e,rows[k].f,u1,u2⟩) (l.set k ⟨s.entry,s.frozen,vs,ts⟩) (l.set k ⟨s.entry,s.frozen,vs,ts⟩).length:=by
  refine⟨by rw[List.length_set];exact a2,by rw[List.length_set,List.length_set];exact h.len,fun i h3 h4=>?_⟩;rw[List.length_set] at h3 h4 ⊢;have hf:=h.f i h3 h4;by_cases hik:k=i
  ·subst hik;rw[List.getElem_set_self,List.getElem_set_self];rw[es] at hf;exact⟨hf.1,hf.2.1,hf.2.2,fun _=>⟨Rep.keep hv1 kp,Rep.keep h2 kp⟩,fun h=>absurd h (by omega)⟩
  ·rw[List.getElem_set_ne hik,List.getElem_set_ne hik];have ho:=h.o i h3 h4 (Ne.symm hik);have kp2:Kept (Off g v1) W W':=hk.mono (fun b hb=>⟨Nat.le_of_lt hb.1,hb.2⟩);exact⟨hf.1,hf.2.1,hf.2.2,fun _=>⟨Rep.keep (Rep.mono (Rep.keep ho.1 kp2) (fun b hb _=>hb.1)) kp,Rep.keep (Rep.mono (Rep.keep ho.2 kp2) (fun b hb _=>hb.1)) kp⟩,fun h=>absurd h (by omega)⟩
 have:=hcs.done;rw[List.length_set] at this;exact this
end
def Qaz (s:SectP)(v:Int)(t:TextP):SectP:=⟨s.entry,s.frozen,(if s.frozen then s.vers else[])++[v],(if s.frozen then s.texts else[])++[t]⟩
theorem QcU {s:SectP}{v:Int}{a b:List (List Word)}(h:Qdw s)(hl:(Qaz s v ⟨a,b⟩).vers.length≤100)(ht:s.texts.length≤s.vers.length)(ha:Qam a)(hb:Qam b):Qdw (Qaz s v ⟨a,b⟩):=by
 refine⟨by omega,?_,fun t ht=>?_⟩
 ·unfold Qaz at hl ⊢;cases hf:s.frozen
  ·simp
  ·rw[hf] at hl;simp at hl ⊢;omega
 ·unfold Qaz at ht;rcases List.mem_append.1 ht with h1|h1
  ·cases hf:s.frozen
   ·rw[hf] at h1;simp at h1
   ·rw[hf] at h1;exact h.2.2 t h1
  ·rw[List.mem_singleton] at h1;subst h1;exact⟨ha,hb⟩
theorem corrS_wf {s:SectP}{v:Int}{t:TextP}(h:s.texts.length≤s.vers.length):(Qaz s v t).texts.length≤(Qaz s v t).vers.length:=by
 unfold Qaz;cases s.frozen
 ·simp
 ·simp;omega
set_option maxRecDepth 100000 in
theorem QcN (A:Option Addr)(c:Nat)(l:List SectP)(m h entry version:Int)(A1 B1:Option Addr)(c1 d1:Nat)(a b:List (List Word))(w:World)(hT:Laid w)(hs:Sl w (fun b=>b<w.heap.size) A c l)(hsh:QaO l)(hwf:WfS l)(hI:I64 h) (ha:Sl w (fun b=>b<w.heap.size) A1 c1 a) (hb:Sl w (fun b=>b<w.heap.size) B1 d1 b) (hsa:Qam a) (hsb:Qam b) (k:Nat) (hk:k<l.length) (hf:QaC l entry=(k:Int)) (s:SectP) (hks:l[k]? =some s) (hfr:s.frozen=true) (hv:0≤version∧version≤2147483647) (hnv:version∉s.vers) (hE:Qau m h a b=0) (hlim:(Qaz s version ⟨a,b⟩).vers.length≤100) (hpn:(Qac m h (l.set k (Qaz s version ⟨a,b⟩))).length≤1000000000):
 Calls Tryz.prog 38 #[.agg #[.int .i64 m,.int .i64 h,.slice A l.length c],.int .i64 entry,.int .i64 version,.agg #[.slice A1 a.length c1,.slice B1 b.length d1]] w fun x W'=>∃v,x=.returned (QaV m h v (Qac m h (l.set k (Qaz s version ⟨a,b⟩))).length)∧OwnP W' w.heap.size 45 v (l.set k (Qaz s version ⟨a,b⟩)) (Up w.heap.size)∧Below w.heap.size w W':=by
 obtain⟨wb,hwb⟩:∃wb,((w.alloc (.cells #[.int .i64 m,.int .i64 h,.slice A l.length c] 27)).alloc (.cells #[.slice A1 a.length c1,.slice B1 b.length d1] 50)).alloc (.cells #[.int .i64 0,.int .i64 0,.slice none 0 0] 27)=wb:=⟨_,rfl⟩;have hba:Below w.heap.size w wb:=by rw[←hwb];exact((bR.alloc nL _).alloc (by simp) _).alloc (by simp;omega) _
 have hz:wb.heap.size=w.heap.size+3:=by rw[←hwb];simp
 have hx0:ABox wb w.heap.size 27 [.int .i64 m,.int .i64 h,.slice A l.length c]:=by rw[←hwb];exact(Below.heap_alloc _ _ _ (by simp;omega)).trans ((Below.heap_alloc _ _ _ (by simp)).trans (heap_alloc_new w _))
 have hx1:ABox wb (w.heap.size+1) 50 [.slice A1 a.length c1,.slice B1 b.length d1]:=by rw[←hwb];exact(Below.heap_alloc _ _ _ (by simp)).trans (Qai (by simp))
 have hx2:ABox wb (w.heap.size+2) 27 [.int .i64 0,.int .i64 0,.slice none 0 0]:=by rw[←hwb];exact Qai (by simp)
 have hl63:l.length≤1048576:=hsh.1;have HXS:Hid (Qdw s):=Lh (hsh.2 s (List.mem_of_getElem? hks));have HWS:Hid (s.texts.length≤s.vers.length):=Lh (hwf s (List.mem_of_getElem? hks))
 have HSH:Hid (QaO (l.set k (Qaz s version ⟨a,b⟩))):=Lh ⟨by rw[List.length_set];exact hsh.1,fun x hx=>by
  rcases List.mem_or_eq_of_mem_set hx with h|h
  ·exact hsh.2 x h
  ·subst h
   exact QcU HXS.out hlim HWS.out hsa hsb⟩
 have HWF:Hid (WfS (l.set k (Qaz s version ⟨a,b⟩))):=Lh (fun x hx=>by
  rcases List.mem_or_eq_of_mem_set hx with h|h
  ·exact hwf x h
  ·subst h
   exact corrS_wf HWS.out)
 have HF:=Lh (QbX A c l m h entry wb (hs.to hba) (by omega))
 have HCL:Hid (∀W,Below wb.heap.size wb W→Calls Tryz.prog 58 #[.agg #[.int .i64 m,.int .i64 h,.slice A l.length c]] W fun e w'=>∃g rows,e=.returned (.agg #[.int .i64 m,.int .i64 h,.slice (some ⟨g,0,none⟩) l.length l.length])∧W.heap.size≤g∧g<w'.heap.size∧CX w' g rows l l.length∧Below W.heap.size W w'):=
  Lh fun W hW=>Qdh A c l m h W ((hs.to hba).to hW) hsh
 have HWR:Hid (∀W,Below wb.heap.size wb W→Calls Tryz.prog 68 #[.agg #[.int .i64 m,.int .i64 h,.slice A l.length c],.agg #[.slice A1 a.length c1,.slice B1 b.length d1]] W fun e w'=>e=.returned (.int .i64 0)∧Below W.heap.size W w'):=
  Lh fun W hW=>by
   have:=Qb6 A1 B1 c1 d1 a b m h (.slice A l.length c) rfl W ((hT.to hba).to hW) ((ha.to hba).to hW) ((hb.to hba).to hW) hI hsa.1 hsb.1;rwa [hE] at this
 have HTX:Hid (∀W,Below wb.heap.size wb W→Calls Tryz.prog 45 #[.agg #[.slice A1 a.length c1,.slice B1 b.length d1]] W fun e w'=>∃va vb,e=.returned (.agg #[va,vb])∧Rep.R w' (Up W.heap.size) [va,vb] (⟨a,b⟩:TextP)∧Below W.heap.size W w'):=
  Lh fun W hW=>Qda A1 B1 c1 d1 a b W ((ha.to hba).to hW) ((hb.to hba).to hW) hsa hsb
 have HW:Hid (∀W,Calls Tryz.prog 48 #[.int .i64 version,.int .i64 0,.int .i64 2147483647] W fun e w'=>e=.returned (.bool true)∧W=w'):=Lh fun W=>by
  have:=Qa2 version 0 2147483647 W;rwa [decide_eq_true hv] at this
 obtain⟨b0,o0,Ag,cg,An,cn,hA,hbl,-,s0,s1,s2,s3,hvS,-,hIE⟩:=Qbv hs hk;have hsk:l[k]=s:=by rw[qG hk] at hks;exact Option.some.inj hks
 rw[hsk] at s0 s1 s2 s3 hvS hIE;subst hA
 have HCN:Hid (∀W,Below wb.heap.size wb W→Calls Tryz.prog 70 #[.slice Ag s.vers.length cg,.int .i64 version] W fun e w'=>e=.returned (.bool false)∧W=w'):=Lh fun W hW=>by
  have:=QbK Ag cg s.vers version W ((hvS.to hba).to hW) (by have:=HXS.out.1;omega);rwa [decide_eq_false hnv] at this
 have s2b:wb.cell? ⟨b0,o0+k*4+2,none⟩=some (.slice Ag s.vers.length cg):=(hba.cell (p:=⟨b0,o0+k*4+2,none⟩) hbl).trans s2;have HSB:Hid (b0<wb.heap.size∧wb.cell? ⟨b0,o0+k*4+2,none⟩=some (.slice Ag s.vers.length cg)):=Lh ⟨by have:=hbl;omega,s2b⟩;have hlc:l.length≤c:=hs.1;have hk0:¬((k:Int)<0):=by omega
 have hk1:(0:Int)≤(k:Int):=by omega
 have hkl:(k:Int)<(l.length:Int):=by omega
 have HLA:=Lh (hT.to hba);have HI:=Lh hI;have HIV:Hid (I64 version):=Lh (by unfold I64;omega);have HPN:=Lh hpn;have HLIM:=Lh hlim;have HX0:=Lh hx0;have HX1:=Lh hx1;have HX2:=Lh hx2;have HB:=Lh hba;have HZ:=Lh hz;have HWB:=Lh hwb;have HKS:=Lh hks;have HFR:=Lh hfr;have HSK:=Lh hsk;have k0:=hx0.cell 0 rfl;have k1:=hx0.cell 1 rfl;have k2:=hx0.cell 2 rfl;clear hs hsh hwf hI ha hb hsa hsb hv hnv hE hpn hlim hT hba hx0 hx1 hx2 hwb hz hks hfr hsk s0 s1 s2 s3 s2b hvS hIE hbl;rw[hf] at HF;clear hf;go_enter Tryz.func38,Tryz.ntmps38;go_upto_region 1 with(fail);rw[HWB.out]
 go_upto_region 12 with(first
  |(go_at_call 43;refine HF.out.mono ?_;rintro e w1 ⟨rfl,hb1⟩;have HB1:=Lh hb1;have HX01:=Lh (HX0.out.to hb1);have HX11:=Lh (HX1.out.to hb1);have s2:=(hb1.cell (p:=⟨b0,o0+k*4+2,none⟩) HSB.out.1).trans HSB.out.2;clear hb1 k0 k1 k2;have k0:=HX01.out.cell 0 rfl;have k1:=HX01.out.cell 1 rfl;have k2:=HX01.out.cell 2 rfl;have e0:=HX11.out.cell 0 rfl;have e1:=HX11.out.cell 1 rfl)
  |(go_at_call 48;refine(HW.out _).mono ?_;rintro e w9 ⟨rfl,rfl⟩)
  |(go_at_call 70;refine(HCN.out _ HB1.out).mono ?_;rintro e w9 ⟨rfl,rfl⟩)
  |(go_at_call 68;refine(HWR.out _ HB1.out).mono ?_;rintro e w2 ⟨rfl,hb2⟩;have HB2:=Lh hb2;have HX02:=Lh (HX01.out.to hb2);clear hb2 k0 k1 k2 e0 e1 s2;have k0:=HX02.out.cell 0 rfl;have k1:=HX02.out.cell 1 rfl;have k2:=HX02.out.cell 2 rfl)
  |(go_at_call 58;refine(HCL.out _ (HB1.out.trans (HB2.out.mono HB1.out.size))).mono ?_;rintro e w3 ⟨g,rows,rfl,hgw,hg3,hcx,hb3⟩;have HCX:=Lh hcx;have HGW:=Lh hgw;have HG3:=Lh hg3;have HB3:=Lh hb3;clear hcx hgw hg3 hb3 k0 k1 k2)
  |fail)
 obtain⟨w4,hw4⟩:∃w4,w3.alloc (.cells #[.int .i64 m,.int .i64 h,.slice (some ⟨g,0,none⟩) l.length l.length] 27)=w4:=⟨_,rfl⟩;have hb4:Below w3.heap.size w3 w4:=by rw[←hw4];exact bR.alloc nL _
 have hx4:ABox w4 w3.heap.size 27 [.int .i64 m,.int .i64 h,.slice (some ⟨g,0,none⟩) l.length l.length]:=by rw[←hw4];exact heap_alloc_new w3 _
 have hz4:w4.heap.size=w3.heap.size+1:=by rw[←hw4];simp
 rw[hw4];clear hw4;have HS:Hid (w.heap.size+3≤g∧g<w3.heap.size∧w4.heap.size=w3.heap.size+1):=Lh ⟨by have:=HZ.out;have:=HB1.out.size;have:=HB2.out.size;have:=HGW.out;omega,HG3.out,hz4⟩;have HBW4:Hid (Below wb.heap.size wb w4):=Lh (((HB1.out.trans (HB2.out.mono HB1.out.size)).trans (HB3.out.mono (by have:=HB1.out.size;have:=HB2.out.size;omega))).trans (hb4.mono (by have:=HB1.out.size;have:=HB2.out.size;have:=HB3.out.size;omega)));have HX4:=Lh hx4;have HX14:=Lh (HX1.out.to HBW4.out);have HX24:=Lh (HX2.out.to HBW4.out);have k2:=hx4.cell 2 rfl;obtain⟨v1,v2,hck3⟩:=HCX.out.ck hk;rw[HSK.out] at hck3;have HNO:Hid (∀q,v1.ownBlock=some q→q<w3.heap.size):=Lh (fun q hq=>(hck3.ko.lt q hq).2);have hck:=hck3.to hb4;clear hck3;obtain⟨-,r1,r2,r3,hfz⟩:=hck.cells;rw[HFR.out] at r1;have hfz2:=hfz (k*4+2);have hfz3:=hfz (k*4+3);have HCK4:=Lh hck;obtain⟨ob,hob⟩:∃ob,w3.heap.size=ob:=⟨_,rfl⟩;rw[hob] at HS HX4 HNO ⊢;rw[hob] at k2;clear hb4 hx4 hz4 hck hfz HB3 HB2 HB1 HX01 HX11 HX02 HX0 HX1 HX2 HF HCL HWR HW HWB HCN HSB HCX HGW HG3 hob;go_upto_region 15 with(fail);clear k2 r1 r2 r3 hfz2 hfz3;have HCK:=HCK4;have HFI:Hid (l.set k ⟨s.entry,s.frozen,s.vers++[version],s.texts++[⟨a,b⟩]⟩=l.set k (Qaz s version ⟨a,b⟩)∧l.length=l.length):=Lh ⟨by unfold Qaz;rw[HFR.out];rfl,rfl⟩;have HNS:Hid (s.vers.length+1≤100∧s.texts.length≤1048576):=Lh ⟨by have:=HLIM.out;unfold Qaz at this;rw[HFR.out] at this;simpa using this,HXS.out.2.1⟩;obtain⟨w5,hw5⟩:∃w5,w4=w5:=⟨_,rfl⟩;have HB5:=HBW4;have HX5:=HX4;have HX15:=HX14;have HX25:=HX24;have HS5:=HS;rw[hw5] at HCK HB5 HX5 HX15 HX25 HS5 ⊢;obtain⟨l5,hl5⟩:∃l5,l=l5:=⟨_,rfl⟩;obtain⟨s5,hs5⟩:∃s5,s=s5:=⟨_,rfl⟩;have HFI5:Hid (l5.set k ⟨s5.entry,s5.frozen,s5.vers++[version],s5.texts++[⟨a,b⟩]⟩=l.set k (Qaz s version ⟨a,b⟩)∧l5.length=l.length):=Lh (by rw[←hl5,←hs5];exact HFI.out);have HNS5:Hid (s5.vers.length+1≤100∧s5.texts.length≤1048576):=Lh (by rw[←hs5];exact HNS.out);have HNO5:=HNO;have HCK5:Hid (CK w5 g rows l5 k s5 v1 v2):=Lh (by rw[←hl5,←hs5];exact HCK.out);clear hl5 hs5 hw5 HCK HCK4 HFI HNS HBW4 HX4 HX14 HX24 HS;obtain⟨V1,cv1,hv1,-,hvc,hvm⟩:=HCK5.out.ko.form;obtain⟨V2,hv2⟩:=HCK5.out.kc;subst hv1;subst hv2;obtain⟨n1,hn1⟩:∃n1,s5.vers.length=n1:=⟨_,rfl⟩;obtain⟨n2,hn2⟩:∃n2,s5.texts.length=n2:=⟨_,rfl⟩;rw[hn1,hn2] at HCK5;rw[hn1] at HNO5;have HN1:=Lh hn1;have HN2:=Lh hn2;have hn1l:n1+1≤100:=by have:=HNS5.out.1;omega
 have hn2l:n2≤1048576:=by have:=HNS5.out.2;omega
 clear hn1 hn2 hvc hvm;refine Qao (fun w'=>w'.cell? ⟨g,k*4+2,none⟩=some (.slice V1 n1 cv1)∧w'.cell? ⟨g,k*4+3,none⟩=some (.slice V2 n2 n2)∧w'.cell? ⟨w.heap.size+1,0,none⟩=some (.slice A1 a.length c1)∧w'.cell? ⟨w.heap.size+1,1,none⟩=some (.slice B1 b.length d1)) (fun i=>decide (i<19∧i≠1)) (by kernel_rfl) ?_;have hbz:Below w5.heap.size w5 w5.drew:=bR.drew;have HCK6:=Lh (HCK5.out.to hbz);have HB6:Hid (Below wb.heap.size wb w5.drew):=Lh (HB5.out.trans (hbz.mono HB5.out.size));have HX6:=Lh (HX5.out.to hbz);have HX16:=Lh (HX15.out.to hbz);have HX26:=Lh (HX25.out.to hbz);have HS6:Hid (w.heap.size+3≤g∧g<ob∧w5.drew.heap.size=ob+1):=HS5;clear hbz HCK5 HB5 HX5 HX15 HX25 HS5;generalize w5.drew=wx at*;clear w5;have hS0:wx.cell? ⟨g,k*4+2,none⟩=some (.slice V1 n1 cv1)∧wx.cell? ⟨g,k*4+3,none⟩=some (.slice V2 n2 n2)∧wx.cell? ⟨w.heap.size+1,0,none⟩=some (.slice A1 a.length c1)∧wx.cell? ⟨w.heap.size+1,1,none⟩=some (.slice B1 b.length d1):=⟨HCK6.out.cells.2.2.1,HCK6.out.cells.2.2.2.1,HX16.out.cell 0 rfl,HX16.out.cell 1 rfl⟩;have HOG:Hid (some g≠(Value.slice V1 n1 cv1).ownBlock):=Lh HCK6.out.off;have HOL:Hid (∀q,(Value.slice V1 n1 cv1).ownBlock=some q→g+1≤q∧q<wx.heap.size):=Lh HCK6.out.ko.lt
 have HSP:Hid (∀W,KS (fun i=>some i≠(Value.slice V1 n1 cv1).ownBlock) wx W→W.cell? ⟨g,k*4+2,none⟩=some (.slice V1 n1 cv1)∧W.cell? ⟨g,k*4+3,none⟩=some (.slice V2 n2 n2)∧W.cell? ⟨w.heap.size+1,0,none⟩=some (.slice A1 a.length c1)∧W.cell? ⟨w.heap.size+1,1,none⟩=some (.slice B1 b.length d1)):=Lh (fun W hW=>by
  have e1:some (w.heap.size+1)≠(Value.slice V1 n1 cv1).ownBlock:=fun e=>by have:=(HOL.out _ e.symm).1;have:=HS6.out;omega
  exact⟨hW.kept.cell HOG.out hS0.1,hW.kept.cell HOG.out hS0.2.1,hW.kept.cell e1 hS0.2.2.1,hW.kept.cell e1 hS0.2.2.2⟩)
 refine tF 1 ⟨some 58,Op.move (.tmp 13),115,_,_,_⟩ ?_ rfl ?zq0 ?zq1;(case zq0=>intro wS;go_simp;(try with_reducible rfl));(all_goals try go_frame);refine tG 0 ⟨some 57,Op.move (.tmp 13),115,_,_,_⟩ ?_ rfl ?zq2 (hS0) ?zq3;(case zq2=>intro _ s;clear s;go_simp;(try with_reducible rfl));(all_goals try go_frame);refine tG 2 ⟨some 59,Op.move (.tmp 13),115,_,_,_⟩ ?_ rfl ?zq4 (hS0) ?zq5;(case zq4=>intro _ s;clear s;go_simp;(try with_reducible rfl));(all_goals try go_frame);refine tG 3 ⟨some 60,Op.nilCheck (.tmp 59),0,_,_,_⟩ ?_ rfl ?zq6 (hS0) ?zq7;(case zq6=>intro _ s;clear s;go_simp;(try with_reducible rfl));(all_goals try go_frame);refine tG 4 ⟨some 61,Op.fieldAddr 45 (.tmp 60) 2,0,_,_,_⟩ ?_ rfl ?zq8 (hS0) ?zq9;(case zq8=>intro _ s;clear s;go_simp;(try with_reducible rfl));(all_goals try go_frame);refine tG 5 ⟨some 62,Op.load 22 (.tmp 61),22,_,_,_⟩ ?_ rfl ?zq10 (hS0) ?zq11;(case zq10=>intro wS hSw;(have hq:=hSw.1);clear hSw;go_simp;(try with_reducible rfl));(all_goals try go_frame);refine tG 6 ⟨some 63,Op.move (.tmp 2),3,_,_,_⟩ ?_ rfl ?zq12 (hS0) ?zq13;(case zq12=>intro _ s;clear s;go_simp;(try with_reducible rfl));(all_goals try go_frame);refine tG 9 ⟨some 66,Op.move (.tmp 13),115,_,_,_⟩ ?_ rfl ?zq14 (hS0) ?zq15;(case zq14=>intro _ s;clear s;go_simp;(try with_reducible rfl));(all_goals try go_frame);refine tG 10 ⟨some 67,Op.nilCheck (.tmp 66),0,_,_,_⟩ ?_ rfl ?zq16 (hS0) ?zq17;(case zq16=>intro _ s;clear s;go_simp;(try with_reducible rfl));(all_goals try go_frame);refine tG 11 ⟨some 68,Op.fieldAddr 45 (.tmp 67) 3,0,_,_,_⟩ ?_ rfl ?zq18 (hS0) ?zq19;(case zq18=>intro _ s;clear s;go_simp;(try with_reducible rfl));(all_goals try go_frame);refine tG 12 ⟨some 69,Op.load 43 (.tmp 68),43,_,_,_⟩ ?_ rfl ?zq20 (hS0) ?zq21;(case zq20=>intro wS hSw;(have hq:=hSw.2.1);clear hSw;go_simp;(try with_reducible rfl));(all_goals try go_frame);refine tG 13 ⟨some 70,Op.load 50 (.tmp 7),50,_,_,_⟩ ?_ rfl ?zq22 (hS0) ?zq23;(case zq22=>intro wS hSw;(have hq:=hSw.2.2.1);(have hq2:=hSw.2.2.2);clear hSw;go_simp;(try with_reducible rfl));(all_goals try go_frame);refine tD 7 ⟨some 64,Op.buildSlice 22 1 #[(0,.tmp 63)],22,_,_,_⟩ rfl fun K hK=>?_
 go_simp;have HR7:Hid (Rep.R (wx.alloc (.cells #[.int .i64 version] 3)) (Up wx.heap.size) [.slice (some ⟨wx.heap.size,0,none⟩) 1 1] [version]):=Lh (rp_int (B:=wx.heap.size) nL HIV.out).2;have HK7:Hid (KS (fun i=>some i≠(Value.slice V1 n1 cv1).ownBlock) wx (wx.alloc (.cells #[.int .i64 version] 3))):=Lh (KS.alloc _);have HB7:Hid (Below wx.heap.size wx (wx.alloc (.cells #[.int .i64 version] 3))):=Lh (bR.alloc nL _);generalize wx.alloc (.cells #[.int .i64 version] 3)=w7 at*;refine hK _ _ (fun _=>?_) ?_
 ·exact(HSP.out _ HK7.out)
 clear hK K;(try go_frame);refine tD 8 ⟨some 65,Op.call {callee:=Callee.builtin Builtin.append,args:=#[Operand.tmp 62,Operand.tmp 64],argTypes:=#[22,22]},22,_,_,_⟩ rfl fun K hK=>?_
 refine Qc9 w7 (α:=Int) (.tmp 62) (.tmp 64) 22 rfl (g+1) 3 (.int .i64 0) 8 Tryz.underlying22 QaB rfl (by decide) (.slice V1 n1 cv1) s5.vers rfl (HCK6.out.ko.below HB7.out) (some ⟨wx.heap.size,0,none⟩) 1 1 [version] rfl rfl (Up wx.heap.size) (by obtain⟨A,c,e,hs,-⟩:=HR7.out;cases e;exact hs) (fun i hi _ e=>by have:=(HOL.out i e.symm).2;have h9:wx.heap.size≤i:=hi;omega) (by rw[HN1.out];omega) (by rw[HN1.out];omega) (by have:=HB7.out.size;have:=HS6.out;omega) ?_;intro v8 w8 ho8 hg8 hat8;have HO8:=Lh ho8;have HK8:Hid (KS (fun i=>some i≠(Value.slice V1 n1 cv1).ownBlock) wx w8):=Lh (HK7.out.trans (KS.grown hg8 (fun i e h=>h e.symm)));have HB8:Hid (Below wb.heap.size wb w8):=Lh ((HB6.out.trans (HB7.out.mono HB6.out.size)).grown hg8 (by have:=HB6.out.size;have:=HB7.out.size;omega) (fun q hq=>by have:=(HOL.out q hq).1;have:=HS6.out;have:=HZ.out;omega));have HF8:Hid (∃A,∃c,v8=.slice A (n1+1) c):=Lh (by obtain⟨A,c,e,-⟩:=ho8.form;rw[qA,List.length_singleton,HN1.out] at e;exact⟨A,c,e⟩);clear ho8 hg8 hat8;obtain⟨A8,c8,hv8⟩:=HF8.out;subst hv8;clear HF8;refine hK _ _ (fun _=>?_) ?_
 ·exact(HSP.out _ HK8.out)
 clear hK K;(try go_frame);refine tD 14 ⟨some 71,Op.call {callee:=Callee.value (Operand.func 45),args:=#[Operand.tmp 70],argTypes:=#[50]},50,_,_,_⟩ rfl fun K hK=>?_
 go_simp;go_at_call 45;refine(HTX.out w8 HB8.out).mono ?_;rintro e w14 ⟨va,vb,rfl,hr1,hb1⟩;obtain⟨x,y,e2,hr2,hr3⟩:=id hr1;cases e2;obtain⟨A6,c6,e3,-⟩:=hr2;obtain⟨B6,d6,e4,-⟩:=hr3;cases e3;cases e4;have HR14:=Lh hr1;have HK14:Hid (KS (fun i=>some i≠(Value.slice V1 n1 cv1).ownBlock) wx w14):=Lh (HK8.out.trans (KS.of_below hb1 _));have HB14:=Lh hb1;clear hr1 hb1;go_simp;refine hK _ _ (fun _=>?_) ?_
 ·exact(HSP.out _ HK14.out)
 clear hK K;(try go_frame);refine tD 15 ⟨some 72,Op.buildSlice 43 1 #[(0,.tmp 71)],43,_,_,_⟩ rfl fun K hK=>?_
 go_simp;have HR15:Hid (Rep.R (w14.alloc (.cells #[.slice A6 a.length c6,.slice B6 b.length d6] 50)) (Up w8.heap.size) [.slice (some ⟨w14.heap.size,0,none⟩) 1 1] [(⟨a,b⟩:TextP)]):=Lh (QdB (B:=w8.heap.size) (cs:=[.slice A6 a.length c6,.slice B6 b.length d6]) HB14.out.size HR14.out).2;have HB15:Hid (Below w14.heap.size w14 (w14.alloc (.cells #[.slice A6 a.length c6,.slice B6 b.length d6] 50))):=Lh (bR.alloc nL _);have HK15:Hid (KS (fun i=>some i≠(Value.slice V1 n1 cv1).ownBlock) wx (w14.alloc (.cells #[.slice A6 a.length c6,.slice B6 b.length d6] 50))):=Lh (HK14.out.trans (KS.alloc _));generalize w14.alloc (.cells #[.slice A6 a.length c6,.slice B6 b.length d6] 50)=w15 at*;refine hK _ _ (fun _=>?_) ?_
 ·exact(HSP.out _ HK15.out)
 clear hK K;(try go_frame);refine tD 16 ⟨some 73,Op.call {callee:=Callee.builtin Builtin.append,args:=#[Operand.tmp 69,Operand.tmp 72],argTypes:=#[43,43]},43,_,_,_⟩ rfl fun K hK=>?_
 have HSd:Hid (Sl w15 (fun b=>b<w15.heap.size) V2 n2 (s5.texts.map (Av.mk:TextP→Av TextP (fun b=>g<b)))):=Lh (by
  obtain⟨A,c,e,hs,-⟩:=Rep.keep HCK6.out.kt (w':=w15) (fun i hi hl=>HK15.out.block i hi.2 hl)
  injection e with e
  cases e
  exact(hs.av (fun i hi _=>hi.1)).mono (fun i hi hl=>hl))
 have HNd:Hid (Sl w15 (fun b=>b<w15.heap.size) (some ⟨w14.heap.size,0,none⟩) 1 [(⟨⟨a,b⟩⟩:Av TextP (fun b=>g<b))]):=Lh (by
  obtain⟨A,c,e,hs,-⟩:=HR15.out
  cases e
  refine Sl.mono (Sl.av (α:=TextP) (P:=fun b=>g<b) hs (fun i hi _=>?_)) (fun i hi hl=>hl)
  have hi:w8.heap.size≤i:=hi
  have:=HS6.out
  have:=HK8.out.size
  show g<i
  omega)
 refine wp_fresh (α:=Av TextP (fun b=>g<b)) (.tmp 69) (.tmp 72) 43 rfl 50 (.agg #[.slice none 0 0,.slice none 0 0]) 48 Tryz.underlying43 Qb9 rfl (show 0<2 by decide) V2 n2 (s5.texts.map Av.mk) rfl (by rw[qM];exact HN2.out) HSd.out (some ⟨w14.heap.size,0,none⟩) 1 1 [⟨⟨a,b⟩⟩] rfl rfl HNd.out (by omega) (by omega) (by omega) ?_;intro v16 w16 ho16 hb16;have HF16:Hid (∃A,∃c,v16=.slice A (n2+1) c):=Lh (by obtain⟨A,c,e,-⟩:=ho16.form;rw[qA,List.length_singleton,qM,HN2.out] at e;exact⟨A,c,e⟩);have HO16:Hid (Rep.R w16 (fun b=>g<b) [v16] (s5.texts++[(⟨a,b⟩:TextP)])):=Lh ((show OwnP w16 w15.heap.size 50 v16 (s5.texts++[(⟨a,b⟩:TextP)]) (fun b=>g<b) from⟨by rw[List.map_append];exact ho16,fun q hq=>by have:=(ho16.lt q hq).1;have:=HS6.out;have:=HK15.out.size;show g<q;omega⟩).rep (by rw[qA,List.length_singleton,HN2.out];omega) (fun i hi _=>hi));have HK16:Hid (KS (fun i=>some i≠(Value.slice V1 n1 cv1).ownBlock) wx w16):=Lh (HK15.out.trans (KS.of_below hb16 _));have HB16:Hid (Below w8.heap.size w8 w16):=Lh ((HB14.out.trans (HB15.out.mono HB14.out.size)).trans (hb16.mono (by have:=HB14.out.size;have:=HB15.out.size;omega)));clear ho16 hb16;obtain⟨A16,c16,hv16⟩:=HF16.out;subst hv16;clear HF16 HSd HNd;have HCELL:Hid (w16.cell? ⟨g,k*4+2,none⟩=some (.slice V1 n1 cv1)∧w16.cell? ⟨g,k*4+3,none⟩=some (.slice V2 n2 n2)):=Lh ⟨(HSP.out _ HK16.out).1,(HSP.out _ HK16.out).2.1⟩
 have HFZ:Hid (∀o,w16.frozen? ⟨g,o,none⟩=false):=Lh (fun o=>by
  have h2:=HK16.out.block g HOG.out HCK6.out.glt
  have h3:w16.frozen? ⟨g,o,none⟩=wx.frozen? ⟨g,o,none⟩:=(by simp only[World.frozen?,h2])
  exact h3.trans (HCK6.out.cells.2.2.2.2 o))
 refine hK _ _ (fun _=>?_) ?_
 ·exact(HSP.out _ HK16.out)
 clear hK K;(try go_frame);refine tG 17 ⟨some 74,Op.nilCheck (.tmp 57),0,_,_,_⟩ ?_ rfl ?zq24 ((HSP.out _ HK16.out)) ?zq25;(case zq24=>intro _ s;clear s;go_simp;(try with_reducible rfl));(all_goals try go_frame);refine tG 18 ⟨some 75,Op.fieldAddr 45 (.tmp 74) 2,0,_,_,_⟩ ?_ rfl ?zq26 ((HSP.out _ HK16.out)) ?zq27;(case zq26=>intro _ s;clear s;go_simp;(try with_reducible rfl));(all_goals try go_frame);refine tD 19 ⟨none,Op.store 22 (.tmp 75) (.tmp 65),0,_,_,_⟩ rfl fun K hK=>?_
 have x2:=HCELL.out.1;have y2:=HFZ.out (k*4+2);go_simp;clear x2 y2;refine hK _ _ (fun h=>absurd h (by decide)) ?_;clear hK K;(try simp only[Act.put]);refine tF 20 ⟨some 76,Op.nilCheck (.tmp 58),0,_,_,_⟩ ?_ rfl ?zq28 ?zq29;(case zq28=>intro wS;go_simp;(try with_reducible rfl));(all_goals try go_frame);refine tF 21 ⟨some 77,Op.fieldAddr 45 (.tmp 76) 3,0,_,_,_⟩ ?_ rfl ?zq30 ?zq31;(case zq30=>intro wS;go_simp;(try with_reducible rfl));(all_goals try go_frame);refine tD 22 ⟨none,Op.store 43 (.tmp 77) (.tmp 73),0,_,_,_⟩ rfl fun K hK=>?_
 have x3:(w16.setCell ⟨g,k*4+2,none⟩ (.slice A8 (n1+1) c8)).cell? ⟨g,k*4+3,none⟩=some (.slice V2 n2 n2):=(World.cell?_setCell_other _ _ _ _ (by intro h;injection h with _ h;omega)).trans HCELL.out.2;have y3:(w16.setCell ⟨g,k*4+2,none⟩ (.slice A8 (n1+1) c8)).frozen? ⟨g,k*4+3,none⟩=false:=(World.frozen?_setCell _ _ _ _).trans (HFZ.out _);go_simp;clear x3 y3;refine hK _ _ (fun h=>absurd h (by decide)) ?_;clear hK K;(try simp only[Act.put]);refine Qaf (by kernel_rfl) ?_ _;unfold Exit.then;obtain⟨hfin,hgf⟩:=HCK6.out.fin (W':=w16) (HK16.out.kept.mono (fun i hi=>hi.2)) (HO8.out.below HB16.out) HO16.out;have HSx:=HS6.out;have hqy:((w16.setCell ⟨g,k*4+2,none⟩ (.slice A8 (n1+1) c8)).setCell ⟨g,k*4+3,none⟩ (.slice A16 (n2+1) c16)).cell? ⟨g,k*4+2,none⟩=some (.slice A8 (n1+1) c8):=(World.cell?_setCell_other _ _ _ _ (by intro h;injection h with _ h;omega)).trans (World.cell?_setCell_same (w:=w16) (a:=⟨g,k*4+2,none⟩) _ HCELL.out.1);have hxo:ABox w16 ob 27 [.int .i64 m,.int .i64 h,.slice (some ⟨g,0,none⟩) l.length l.length]:=(HK16.out.block ob (fun e=>by have:=HNO5.out _ e.symm;omega) HX6.out.lt).trans HX6.out;have hx2:ABox w16 (w.heap.size+2) 27 [.int .i64 0,.int .i64 0,.slice none 0 0]:=(HK16.out.block (w.heap.size+2) (fun e=>by have:=(HOL.out _ e.symm).1;omega) HX26.out.lt).trans HX26.out;have hbf:Below wb.heap.size wb w16:=HB8.out.trans (HB16.out.mono HB8.out.size);generalize (w16.setCell ⟨g,k*4+2,none⟩ (.slice A8 (n1+1) c8)).setCell ⟨g,k*4+3,none⟩ (.slice A16 (n2+1) c16)=wy at*;have HXy:Hid (ABox wy ob 27 [.int .i64 m,.int .i64 h,.slice (some ⟨g,0,none⟩) l.length l.length]):=Lh ((hgf.block ob hxo.lt (fun e=>by injection e with e;omega)).trans hxo);have HX2y:Hid (ABox wy (w.heap.size+2) 27 [.int .i64 0,.int .i64 0,.slice none 0 0]):=Lh ((hgf.block _ hx2.lt (fun e=>by injection e with e;omega)).trans hx2);have HBy:Hid (Below wb.heap.size wb wy):=Lh (hbf.grown hgf hbf.size (fun q hq=>by cases hq;have:=HZ.out;omega));rw[HFI5.out.1,HFI5.out.2] at hfin;have HOy:=Lh hfin;clear hfin hgf hxo hx2 hbf hS0 HSP;clear HCK6 HB6 HX6 HX16 HX26 HK7 HK8 HK14 HK15 HK16 HO8 HO16 HR7 HR14 HR15 HB7 HB8 HB14 HB15 HB16 HCELL HFZ HOG HOL HTX;have hLl:(l.set k (Qaz s version ⟨a,b⟩)).length=l.length:=List.length_set;obtain⟨L,hL⟩:∃L,l.set k (Qaz s version ⟨a,b⟩)=L:=⟨_,rfl⟩;rw[hL] at HOy HSH HWF HPN hLl;have HL:=Lh hL;clear hL
 have HOK:Hid (BookOk wy m h (some ⟨g,0,none⟩) l.length L):=Lh ⟨HLA.out.to HBy.out,by
  obtain⟨A,c,e,hs⟩:=HOy.out.sl
  rw[hLl] at e
  cases e
  exact hs.mono (fun i _ hl=>hl),HSH.out,HWF.out,HI.out,HPN.out⟩
 have HFI:=Lh (Qei HOK.out);rw[hLl] at HFI;have k0:=HXy.out.cell 0 rfl;have k1:=HXy.out.cell 1 rfl;have k2:=HXy.out.cell 2 rfl;clear hLl HSH HWF HOK;obtain⟨np,hnp⟩:∃np,(Qac m h L).length=np:=⟨_,rfl⟩;rw[hnp] at HFI;have HNP:=Lh hnp;clear hnp HPN;have hn100:¬((n1+1:Nat):Int)>100:=by omega
 by_cases hn:16384<np
 ·have hfv:∀v,QaV m h v np=.tuple #[.agg #[.int .i64 0,.int .i64 0,.slice none 0 0],.int .i64 2]:=fun v=>by unfold QaV;rw[if_pos hn]
  have HFV:=Lh hfv;rw[hfv] at HFI;clear hfv hn
  go_wp2_with (first
   |(go_at_call 69;refine HFI.out.mono ?_;rintro e w7 ⟨rfl,hb7⟩;have HB7:=Lh hb7;have HX27:=Lh (HX2y.out.to hb7);clear hb7 k0 k1 k2;have k0:=HX27.out.cell 0 rfl;have k1:=HX27.out.cell 1 rfl;have k2:=HX27.out.cell 2 rfl;have f0:=HX27.out.fz 0;have f1:=HX27.out.fz 1;have f2:=HX27.out.fz 2)
   |fail)
  have hn1:∀i,Up g i→i≠w.heap.size+2:=fun i (hi:g≤i)=>by have:=HS6.out;omega
  exact bodyPost_ret (v:=.tuple #[.agg #[.int .i64 0,.int .i64 0,.slice none 0 0],.int .i64 2]) (Qab Tryz.results38 _ _ (w.heap.size+2) _ #[.int .i64 0,.int .i64 0,.slice none 0 0] (0,0) _ rfl (Qax HX27.out _ _ _) Tryz.underlying27 rfl (by kernel_rfl)) rfl ⟨.slice (some ⟨g,0,none⟩) l.length l.length,by rw[HL.out,HNP.out,HFV.out],by rw[HL.out];exact Qcz ((((HOy.out.below HB7.out).set (w.heap.size+2) 0 _ hn1).set (w.heap.size+2) 1 _ hn1).set (w.heap.size+2) 2 _ hn1) (by omega),below3 ((HB.out.trans (HBy.out.mono HB.out.size)).trans (HB7.out.mono (by have:=HB.out.size;have:=HBy.out.size;omega))) (by omega) _ _ _⟩
 ·have hfv:∀v,QaV m h v np=.tuple #[.agg #[.int .i64 m,.int .i64 h,v],.int .i64 0]:=fun v=>by unfold QaV;rw[if_neg hn]
  have HFV:=Lh hfv;rw[hfv] at HFI;clear hfv hn
  go_wp2_with (first
   |(go_at_call 69;refine HFI.out.mono ?_;rintro e w7 ⟨rfl,hb7⟩;have HB7:=Lh hb7;have HX27:=Lh (HX2y.out.to hb7);clear hb7 k0 k1 k2;have k0:=HX27.out.cell 0 rfl;have k1:=HX27.out.cell 1 rfl;have k2:=HX27.out.cell 2 rfl;have f0:=HX27.out.fz 0;have f1:=HX27.out.fz 1;have f2:=HX27.out.fz 2)
   |fail)
  have hn1:∀i,Up g i→i≠w.heap.size+2:=fun i (hi:g≤i)=>by have:=HS6.out;omega
  exact bodyPost_ret (v:=.tuple #[.agg #[.int .i64 m,.int .i64 h,.slice (some ⟨g,0,none⟩) l.length l.length],.int .i64 0]) (Qab Tryz.results38 _ _ (w.heap.size+2) _ #[.int .i64 m,.int .i64 h,.slice (some ⟨g,0,none⟩) l.length l.length] (0,0) _ rfl (Qax HX27.out _ _ _) Tryz.underlying27 rfl (by kernel_rfl)) rfl ⟨.slice (some ⟨g,0,none⟩) l.length l.length,by rw[HL.out,HNP.out,HFV.out],by rw[HL.out];exact Qcz ((((HOy.out.below HB7.out).set (w.heap.size+2) 0 _ hn1).set (w.heap.size+2) 1 _ hn1).set (w.heap.size+2) 2 _ hn1) (by omega),below3 ((HB.out.trans (HBy.out.mono HB.out.size)).trans (HB7.out.mono (by have:=HB.out.size;have:=HBy.out.size;omega))) (by omega) _ _ _⟩
set_option maxRecDepth 100000 in
theorem QdF (A:Option Addr)(c:Nat)(l:List SectP)(m h entry version:Int)(A1 B1:Option Addr)(c1 d1:Nat)(a b:List (List Word))(w:World)(hT:Laid w)(hs:Sl w (fun b=>b<w.heap.size) A c l)(hsh:QaO l)(hwf:WfS l)(hI:I64 h) (ha:Sl w (fun b=>b<w.heap.size) A1 c1 a) (hb:Sl w (fun b=>b<w.heap.size) B1 d1 b) (hsa:Qam a) (hsb:Qam b) (k:Nat) (hk:k<l.length) (hf:QaC l entry=(k:Int)) (s:SectP) (hks:l[k]? =some s) (hfr:s.frozen=false) (hv:0≤version∧version≤2147483647) (hnv:version∉s.vers) (hE:Qau m h a b=0) (hlim:(Qaz s version ⟨a,b⟩).vers.length≤100) (hpn:(Qac m h (l.set k (Qaz s version ⟨a,b⟩))).length≤1000000000):
 Calls Tryz.prog 38 #[.agg #[.int .i64 m,.int .i64 h,.slice A l.length c],.int .i64 entry,.int .i64 version,.agg #[.slice A1 a.length c1,.slice B1 b.length d1]] w fun x W'=>∃v,x=.returned (QaV m h v (Qac m h (l.set k (Qaz s version ⟨a,b⟩))).length)∧OwnP W' w.heap.size 45 v (l.set k (Qaz s version ⟨a,b⟩)) (Up w.heap.size)∧Below w.heap.size w W':=by
 obtain⟨wb,hwb⟩:∃wb,((w.alloc (.cells #[.int .i64 m,.int .i64 h,.slice A l.length c] 27)).alloc (.cells #[.slice A1 a.length c1,.slice B1 b.length d1] 50)).alloc (.cells #[.int .i64 0,.int .i64 0,.slice none 0 0] 27)=wb:=⟨_,rfl⟩;have hba:Below w.heap.size w wb:=by rw[←hwb];exact((bR.alloc nL _).alloc (by simp) _).alloc (by simp;omega) _
 have hz:wb.heap.size=w.heap.size+3:=by rw[←hwb];simp
 have hx0:ABox wb w.heap.size 27 [.int .i64 m,.int .i64 h,.slice A l.length c]:=by rw[←hwb];exact(Below.heap_alloc _ _ _ (by simp;omega)).trans ((Below.heap_alloc _ _ _ (by simp)).trans (heap_alloc_new w _))
 have hx1:ABox wb (w.heap.size+1) 50 [.slice A1 a.length c1,.slice B1 b.length d1]:=by rw[←hwb];exact(Below.heap_alloc _ _ _ (by simp)).trans (Qai (by simp))
 have hx2:ABox wb (w.heap.size+2) 27 [.int .i64 0,.int .i64 0,.slice none 0 0]:=by rw[←hwb];exact Qai (by simp)
 have hl63:l.length≤1048576:=hsh.1;have HXS:Hid (Qdw s):=Lh (hsh.2 s (List.mem_of_getElem? hks));have HWS:Hid (s.texts.length≤s.vers.length):=Lh (hwf s (List.mem_of_getElem? hks))
 have HSH:Hid (QaO (l.set k (Qaz s version ⟨a,b⟩))):=Lh ⟨by rw[List.length_set];exact hsh.1,fun x hx=>by
  rcases List.mem_or_eq_of_mem_set hx with h|h
  ·exact hsh.2 x h
  ·subst h
   exact QcU HXS.out hlim HWS.out hsa hsb⟩
 have HWF:Hid (WfS (l.set k (Qaz s version ⟨a,b⟩))):=Lh (fun x hx=>by
  rcases List.mem_or_eq_of_mem_set hx with h|h
  ·exact hwf x h
  ·subst h
   exact corrS_wf HWS.out)
 have HF:=Lh (QbX A c l m h entry wb (hs.to hba) (by omega))
 have HCL:Hid (∀W,Below wb.heap.size wb W→Calls Tryz.prog 58 #[.agg #[.int .i64 m,.int .i64 h,.slice A l.length c]] W fun e w'=>∃g rows,e=.returned (.agg #[.int .i64 m,.int .i64 h,.slice (some ⟨g,0,none⟩) l.length l.length])∧W.heap.size≤g∧g<w'.heap.size∧CX w' g rows l l.length∧Below W.heap.size W w'):=
  Lh fun W hW=>Qdh A c l m h W ((hs.to hba).to hW) hsh
 have HWR:Hid (∀W,Below wb.heap.size wb W→Calls Tryz.prog 68 #[.agg #[.int .i64 m,.int .i64 h,.slice A l.length c],.agg #[.slice A1 a.length c1,.slice B1 b.length d1]] W fun e w'=>e=.returned (.int .i64 0)∧Below W.heap.size W w'):=
  Lh fun W hW=>by
   have:=Qb6 A1 B1 c1 d1 a b m h (.slice A l.length c) rfl W ((hT.to hba).to hW) ((ha.to hba).to hW) ((hb.to hba).to hW) hI hsa.1 hsb.1;rwa [hE] at this
 have HTX:Hid (∀W,Below wb.heap.size wb W→Calls Tryz.prog 45 #[.agg #[.slice A1 a.length c1,.slice B1 b.length d1]] W fun e w'=>∃va vb,e=.returned (.agg #[va,vb])∧Rep.R w' (Up W.heap.size) [va,vb] (⟨a,b⟩:TextP)∧Below W.heap.size W w'):=
  Lh fun W hW=>Qda A1 B1 c1 d1 a b W ((ha.to hba).to hW) ((hb.to hba).to hW) hsa hsb
 have HW:Hid (∀W,Calls Tryz.prog 48 #[.int .i64 version,.int .i64 0,.int .i64 2147483647] W fun e w'=>e=.returned (.bool true)∧W=w'):=Lh fun W=>by
  have:=Qa2 version 0 2147483647 W;rwa [decide_eq_true hv] at this
 obtain⟨b0,o0,Ag,cg,An,cn,hA,hbl,-,s0,s1,s2,s3,hvS,-,hIE⟩:=Qbv hs hk;have hsk:l[k]=s:=by rw[qG hk] at hks;exact Option.some.inj hks
 rw[hsk] at s0 s1 s2 s3 hvS hIE;subst hA
 have HCN:Hid (∀W,Below wb.heap.size wb W→Calls Tryz.prog 70 #[.slice Ag s.vers.length cg,.int .i64 version] W fun e w'=>e=.returned (.bool false)∧W=w'):=Lh fun W hW=>by
  have:=QbK Ag cg s.vers version W ((hvS.to hba).to hW) (by have:=HXS.out.1;omega);rwa [decide_eq_false hnv] at this
 have s2b:wb.cell? ⟨b0,o0+k*4+2,none⟩=some (.slice Ag s.vers.length cg):=(hba.cell (p:=⟨b0,o0+k*4+2,none⟩) hbl).trans s2;have HSB:Hid (b0<wb.heap.size∧wb.cell? ⟨b0,o0+k*4+2,none⟩=some (.slice Ag s.vers.length cg)):=Lh ⟨by have:=hbl;omega,s2b⟩;have hlc:l.length≤c:=hs.1;have hk0:¬((k:Int)<0):=by omega
 have hk1:(0:Int)≤(k:Int):=by omega
 have hkl:(k:Int)<(l.length:Int):=by omega
 have HLA:=Lh (hT.to hba);have HI:=Lh hI;have HIV:Hid (I64 version):=Lh (by unfold I64;omega);have HPN:=Lh hpn;have HLIM:=Lh hlim;have HX0:=Lh hx0;have HX1:=Lh hx1;have HX2:=Lh hx2;have HB:=Lh hba;have HZ:=Lh hz;have HWB:=Lh hwb;have HKS:=Lh hks;have HFR:=Lh hfr;have HSK:=Lh hsk;have k0:=hx0.cell 0 rfl;have k1:=hx0.cell 1 rfl;have k2:=hx0.cell 2 rfl;clear hs hsh hwf hI ha hb hsa hsb hv hnv hE hpn hlim hT hba hx0 hx1 hx2 hwb hz hks hfr hsk s0 s1 s2 s3 s2b hvS hIE hbl;rw[hf] at HF;clear hf;go_enter Tryz.func38,Tryz.ntmps38;go_upto_region 1 with(fail);rw[HWB.out]
 go_upto_region 12 with(first
  |(go_at_call 43;refine HF.out.mono ?_;rintro e w1 ⟨rfl,hb1⟩;have HB1:=Lh hb1;have HX01:=Lh (HX0.out.to hb1);have HX11:=Lh (HX1.out.to hb1);have s2:=(hb1.cell (p:=⟨b0,o0+k*4+2,none⟩) HSB.out.1).trans HSB.out.2;clear hb1 k0 k1 k2;have k0:=HX01.out.cell 0 rfl;have k1:=HX01.out.cell 1 rfl;have k2:=HX01.out.cell 2 rfl;have e0:=HX11.out.cell 0 rfl;have e1:=HX11.out.cell 1 rfl)
  |(go_at_call 48;refine(HW.out _).mono ?_;rintro e w9 ⟨rfl,rfl⟩)
  |(go_at_call 70;refine(HCN.out _ HB1.out).mono ?_;rintro e w9 ⟨rfl,rfl⟩)
  |(go_at_call 68;refine(HWR.out _ HB1.out).mono ?_;rintro e w2 ⟨rfl,hb2⟩;have HB2:=Lh hb2;have HX02:=Lh (HX01.out.to hb2);clear hb2 k0 k1 k2 e0 e1 s2;have k0:=HX02.out.cell 0 rfl;have k1:=HX02.out.cell 1 rfl;have k2:=HX02.out.cell 2 rfl)
  |(go_at_call 58;refine(HCL.out _ (HB1.out.trans (HB2.out.mono HB1.out.size))).mono ?_;rintro e w3 ⟨g,rows,rfl,hgw,hg3,hcx,hb3⟩;have HCX:=Lh hcx;have HGW:=Lh hgw;have HG3:=Lh hg3;have HB3:=Lh hb3;clear hcx hgw hg3 hb3 k0 k1 k2)
  |fail)
 obtain⟨w4,hw4⟩:∃w4,w3.alloc (.cells #[.int .i64 m,.int .i64 h,.slice (some ⟨g,0,none⟩) l.length l.length] 27)=w4:=⟨_,rfl⟩;have hb4:Below w3.heap.size w3 w4:=by rw[←hw4];exact bR.alloc nL _
 have hx4:ABox w4 w3.heap.size 27 [.int .i64 m,.int .i64 h,.slice (some ⟨g,0,none⟩) l.length l.length]:=by rw[←hw4];exact heap_alloc_new w3 _
 have hz4:w4.heap.size=w3.heap.size+1:=by rw[←hw4];simp
 rw[hw4];clear hw4;have HS:Hid (w.heap.size+3≤g∧g<w3.heap.size∧w4.heap.size=w3.heap.size+1):=Lh ⟨by have:=HZ.out;have:=HB1.out.size;have:=HB2.out.size;have:=HGW.out;omega,HG3.out,hz4⟩;have HBW4:Hid (Below wb.heap.size wb w4):=Lh (((HB1.out.trans (HB2.out.mono HB1.out.size)).trans (HB3.out.mono (by have:=HB1.out.size;have:=HB2.out.size;omega))).trans (hb4.mono (by have:=HB1.out.size;have:=HB2.out.size;have:=HB3.out.size;omega)));have HX4:=Lh hx4;have HX14:=Lh (HX1.out.to HBW4.out);have HX24:=Lh (HX2.out.to HBW4.out);have k2:=hx4.cell 2 rfl;obtain⟨v1,v2,hck3⟩:=HCX.out.ck hk;rw[HSK.out] at hck3;have HNO:Hid (∀q,v1.ownBlock=some q→q<w3.heap.size):=Lh (fun q hq=>(hck3.ko.lt q hq).2);have hck:=hck3.to hb4;clear hck3;obtain⟨-,r1,r2,r3,hfz⟩:=hck.cells;rw[HFR.out] at r1;have hfz2:=hfz (k*4+2);have hfz3:=hfz (k*4+3);have HCK4:=Lh hck;obtain⟨ob,hob⟩:∃ob,w3.heap.size=ob:=⟨_,rfl⟩;rw[hob] at HS HX4 HNO ⊢;rw[hob] at k2;clear hb4 hx4 hz4 hck hfz HB3 HB2 HB1 HX01 HX11 HX02 HX0 HX1 HX2 HF HCL HWR HW HWB HCN HSB HCX HGW HG3 hob;have r3n:(w4.setCell ⟨g,k*4+2,none⟩ (.slice none 0 0)).cell? ⟨g,k*4+3,none⟩=some v2:=(World.cell?_setCell_other _ _ _ _ (by intro h;injection h with _ h;omega)).trans r3;have f3n:(w4.setCell ⟨g,k*4+2,none⟩ (.slice none 0 0)).frozen? ⟨g,k*4+3,none⟩=false:=(World.frozen?_setCell _ _ _ _).trans hfz3;clear r3 hfz3;go_upto_region 15 with(fail);clear k2 r1 r2 r3n f3n hfz2;obtain⟨rows5,hck5⟩:=HCK4.out.reset;have hgr:w4.grownBy ((w4.setCell ⟨g,k*4+2,none⟩ (.slice none 0 0)).setCell ⟨g,k*4+3,none⟩ (.slice none 0 0)) (some g):=Qbj (b:=w4.setCell ⟨g,k*4+2,none⟩ (.slice none 0 0)) ⟨rfl,rfl,rfl,by simp,fun i _ hi=>Qaa _ _ _ _ (fun e=>hi (by rw[e]))⟩ ⟨rfl,rfl,rfl,by simp,fun i _ hi=>Qaa _ _ _ _ (fun e=>hi (by rw[e]))⟩;have hsz5:((w4.setCell ⟨g,k*4+2,none⟩ (.slice none 0 0)).setCell ⟨g,k*4+3,none⟩ (.slice none 0 0)).heap.size=w4.heap.size:=by simp
 obtain⟨w5,hw5⟩:∃w5,(w4.setCell ⟨g,k*4+2,none⟩ (.slice none 0 0)).setCell ⟨g,k*4+3,none⟩ (.slice none 0 0)=w5:=⟨_,rfl⟩;rw[hw5] at hck5 hgr hsz5 ⊢;clear hw5;have HB5:Hid (Below wb.heap.size wb w5):=Lh (HBW4.out.grown hgr HBW4.out.size (fun q hq=>by cases hq;have:=HS.out;have:=HZ.out;omega));have HX5:Hid (ABox w5 ob 27 [.int .i64 m,.int .i64 h,.slice (some ⟨g,0,none⟩) l.length l.length]):=Lh ((hgr.block _ HX4.out.lt (fun e=>by injection e with e;have:=HS.out;omega)).trans HX4.out);have HX15:Hid (ABox w5 (w.heap.size+1) 50 [.slice A1 a.length c1,.slice B1 b.length d1]):=Lh ((hgr.block _ HX14.out.lt (fun e=>by injection e with e;have:=HS.out;omega)).trans HX14.out);have HX25:Hid (ABox w5 (w.heap.size+2) 27 [.int .i64 0,.int .i64 0,.slice none 0 0]):=Lh ((hgr.block _ HX24.out.lt (fun e=>by injection e with e;have:=HS.out;omega)).trans HX24.out);have HS5:Hid (w.heap.size+3≤g∧g<ob∧w5.heap.size=ob+1):=Lh ⟨HS.out.1,HS.out.2.1,by rw[hsz5];exact HS.out.2.2⟩;have HFI:Hid ((l.set k {s with vers:=[],texts:=[]}).set k ⟨s.entry,s.frozen,[]++[version],[]++[⟨a,b⟩]⟩=l.set k (Qaz s version ⟨a,b⟩)∧(l.set k {s with vers:=[],texts:=[]}).length=l.length):=Lh ⟨by rw[List.set_set];unfold Qaz;rw[HFR.out];rfl,by rw[List.length_set]⟩;obtain⟨l5,hl5⟩:∃l5,l.set k {s with vers:=[],texts:=[]}=l5:=⟨_,rfl⟩;obtain⟨s5,hs5⟩:∃s5:SectP,{s with vers:=[],texts:=[]}=s5:=⟨_,rfl⟩;have HFI5:Hid (l5.set k ⟨s5.entry,s5.frozen,s5.vers++[version],s5.texts++[⟨a,b⟩]⟩=l.set k (Qaz s version ⟨a,b⟩)∧l5.length=l.length):=Lh (by rw[←hl5,←hs5];exact HFI.out);have HNS5:Hid (s5.vers.length+1≤100∧s5.texts.length≤1048576):=Lh (by rw[←hs5];exact⟨by simp,by simp⟩);obtain⟨u1,hu1⟩:∃u1,Value.slice none 0 0=u1:=⟨_,rfl⟩;obtain⟨u2,hu2⟩:∃u2,Value.slice none 0 0=u2:=⟨_,rfl⟩;have HNO5:Hid (∀q,u1.ownBlock=some q→q<ob):=Lh (fun q hq=>by rw[←hu1] at hq;cases hq);have HCK5:Hid (CK w5 g rows5 l5 k s5 u1 u2):=Lh (by rw[←hu1,←hu2,←hs5,←hl5];exact hck5);clear hu1 hu2 hl5 hs5 hck5 hgr hsz5 HCK4 HFI HBW4 HX4 HX14 HX24 HS HNO;clear v1 v2 rows;obtain⟨V1,cv1,hv1,-,hvc,hvm⟩:=HCK5.out.ko.form;obtain⟨V2,hv2⟩:=HCK5.out.kc;subst hv1;subst hv2;obtain⟨n1,hn1⟩:∃n1,s5.vers.length=n1:=⟨_,rfl⟩;obtain⟨n2,hn2⟩:∃n2,s5.texts.length=n2:=⟨_,rfl⟩;rw[hn1,hn2] at HCK5;rw[hn1] at HNO5;have HN1:=Lh hn1;have HN2:=Lh hn2;have hn1l:n1+1≤100:=by have:=HNS5.out.1;omega
 have hn2l:n2≤1048576:=by have:=HNS5.out.2;omega
 clear hn1 hn2 hvc hvm;refine Qao (fun w'=>w'.cell? ⟨g,k*4+2,none⟩=some (.slice V1 n1 cv1)∧w'.cell? ⟨g,k*4+3,none⟩=some (.slice V2 n2 n2)∧w'.cell? ⟨w.heap.size+1,0,none⟩=some (.slice A1 a.length c1)∧w'.cell? ⟨w.heap.size+1,1,none⟩=some (.slice B1 b.length d1)) (fun i=>decide (i<19∧i≠1)) (by kernel_rfl) ?_;have hbz:Below w5.heap.size w5 w5.drew:=bR.drew;have HCK6:=Lh (HCK5.out.to hbz);have HB6:Hid (Below wb.heap.size wb w5.drew):=Lh (HB5.out.trans (hbz.mono HB5.out.size));have HX6:=Lh (HX5.out.to hbz);have HX16:=Lh (HX15.out.to hbz);have HX26:=Lh (HX25.out.to hbz);have HS6:Hid (w.heap.size+3≤g∧g<ob∧w5.drew.heap.size=ob+1):=HS5;clear hbz HCK5 HB5 HX5 HX15 HX25 HS5;generalize w5.drew=wx at*;clear w5;have hS0:wx.cell? ⟨g,k*4+2,none⟩=some (.slice V1 n1 cv1)∧wx.cell? ⟨g,k*4+3,none⟩=some (.slice V2 n2 n2)∧wx.cell? ⟨w.heap.size+1,0,none⟩=some (.slice A1 a.length c1)∧wx.cell? ⟨w.heap.size+1,1,none⟩=some (.slice B1 b.length d1):=⟨HCK6.out.cells.2.2.1,HCK6.out.cells.2.2.2.1,HX16.out.cell 0 rfl,HX16.out.cell 1 rfl⟩;have HOG:Hid (some g≠(Value.slice V1 n1 cv1).ownBlock):=Lh HCK6.out.off;have HOL:Hid (∀q,(Value.slice V1 n1 cv1).ownBlock=some q→g+1≤q∧q<wx.heap.size):=Lh HCK6.out.ko.lt
 have HSP:Hid (∀W,KS (fun i=>some i≠(Value.slice V1 n1 cv1).ownBlock) wx W→W.cell? ⟨g,k*4+2,none⟩=some (.slice V1 n1 cv1)∧W.cell? ⟨g,k*4+3,none⟩=some (.slice V2 n2 n2)∧W.cell? ⟨w.heap.size+1,0,none⟩=some (.slice A1 a.length c1)∧W.cell? ⟨w.heap.size+1,1,none⟩=some (.slice B1 b.length d1)):=Lh (fun W hW=>by
  have e1:some (w.heap.size+1)≠(Value.slice V1 n1 cv1).ownBlock:=fun e=>by have:=(HOL.out _ e.symm).1;have:=HS6.out;omega
  exact⟨hW.kept.cell HOG.out hS0.1,hW.kept.cell HOG.out hS0.2.1,hW.kept.cell e1 hS0.2.2.1,hW.kept.cell e1 hS0.2.2.2⟩)
 refine tF 1 ⟨some 58,Op.move (.tmp 13),115,_,_,_⟩ ?_ rfl ?zq32 ?zq33;(case zq32=>intro wS;go_simp;(try with_reducible rfl));(all_goals try go_frame);refine tG 0 ⟨some 57,Op.move (.tmp 13),115,_,_,_⟩ ?_ rfl ?zq34 (hS0) ?zq35;(case zq34=>intro _ s;clear s;go_simp;(try with_reducible rfl));(all_goals try go_frame);refine tG 2 ⟨some 59,Op.move (.tmp 13),115,_,_,_⟩ ?_ rfl ?zq36 (hS0) ?zq37;(case zq36=>intro _ s;clear s;go_simp;(try with_reducible rfl));(all_goals try go_frame);refine tG 3 ⟨some 60,Op.nilCheck (.tmp 59),0,_,_,_⟩ ?_ rfl ?zq38 (hS0) ?zq39;(case zq38=>intro _ s;clear s;go_simp;(try with_reducible rfl));(all_goals try go_frame);refine tG 4 ⟨some 61,Op.fieldAddr 45 (.tmp 60) 2,0,_,_,_⟩ ?_ rfl ?zq40 (hS0) ?zq41;(case zq40=>intro _ s;clear s;go_simp;(try with_reducible rfl));(all_goals try go_frame);refine tG 5 ⟨some 62,Op.load 22 (.tmp 61),22,_,_,_⟩ ?_ rfl ?zq42 (hS0) ?zq43;(case zq42=>intro wS hSw;(have hq:=hSw.1);clear hSw;go_simp;(try with_reducible rfl));(all_goals try go_frame);refine tG 6 ⟨some 63,Op.move (.tmp 2),3,_,_,_⟩ ?_ rfl ?zq44 (hS0) ?zq45;(case zq44=>intro _ s;clear s;go_simp;(try with_reducible rfl));(all_goals try go_frame);refine tG 9 ⟨some 66,Op.move (.tmp 13),115,_,_,_⟩ ?_ rfl ?zq46 (hS0) ?zq47;(case zq46=>intro _ s;clear s;go_simp;(try with_reducible rfl));(all_goals try go_frame);refine tG 10 ⟨some 67,Op.nilCheck (.tmp 66),0,_,_,_⟩ ?_ rfl ?zq48 (hS0) ?zq49;(case zq48=>intro _ s;clear s;go_simp;(try with_reducible rfl));(all_goals try go_frame);refine tG 11 ⟨some 68,Op.fieldAddr 45 (.tmp 67) 3,0,_,_,_⟩ ?_ rfl ?zq50 (hS0) ?zq51;(case zq50=>intro _ s;clear s;go_simp;(try with_reducible rfl));(all_goals try go_frame);refine tG 12 ⟨some 69,Op.load 43 (.tmp 68),43,_,_,_⟩ ?_ rfl ?zq52 (hS0) ?zq53;(case zq52=>intro wS hSw;(have hq:=hSw.2.1);clear hSw;go_simp;(try with_reducible rfl));(all_goals try go_frame);refine tG 13 ⟨some 70,Op.load 50 (.tmp 7),50,_,_,_⟩ ?_ rfl ?zq54 (hS0) ?zq55;(case zq54=>intro wS hSw;(have hq:=hSw.2.2.1);(have hq2:=hSw.2.2.2);clear hSw;go_simp;(try with_reducible rfl));(all_goals try go_frame);refine tD 7 ⟨some 64,Op.buildSlice 22 1 #[(0,.tmp 63)],22,_,_,_⟩ rfl fun K hK=>?_
 go_simp;have HR7:Hid (Rep.R (wx.alloc (.cells #[.int .i64 version] 3)) (Up wx.heap.size) [.slice (some ⟨wx.heap.size,0,none⟩) 1 1] [version]):=Lh (rp_int (B:=wx.heap.size) nL HIV.out).2;have HK7:Hid (KS (fun i=>some i≠(Value.slice V1 n1 cv1).ownBlock) wx (wx.alloc (.cells #[.int .i64 version] 3))):=Lh (KS.alloc _);have HB7:Hid (Below wx.heap.size wx (wx.alloc (.cells #[.int .i64 version] 3))):=Lh (bR.alloc nL _);generalize wx.alloc (.cells #[.int .i64 version] 3)=w7 at*;refine hK _ _ (fun _=>?_) ?_
 ·exact(HSP.out _ HK7.out)
 clear hK K;(try go_frame);refine tD 8 ⟨some 65,Op.call {callee:=Callee.builtin Builtin.append,args:=#[Operand.tmp 62,Operand.tmp 64],argTypes:=#[22,22]},22,_,_,_⟩ rfl fun K hK=>?_
 refine Qc9 w7 (α:=Int) (.tmp 62) (.tmp 64) 22 rfl (g+1) 3 (.int .i64 0) 8 Tryz.underlying22 QaB rfl (by decide) (.slice V1 n1 cv1) s5.vers rfl (HCK6.out.ko.below HB7.out) (some ⟨wx.heap.size,0,none⟩) 1 1 [version] rfl rfl (Up wx.heap.size) (by obtain⟨A,c,e,hs,-⟩:=HR7.out;cases e;exact hs) (fun i hi _ e=>by have:=(HOL.out i e.symm).2;have h9:wx.heap.size≤i:=hi;omega) (by rw[HN1.out];omega) (by rw[HN1.out];omega) (by have:=HB7.out.size;have:=HS6.out;omega) ?_;intro v8 w8 ho8 hg8 hat8;have HO8:=Lh ho8;have HK8:Hid (KS (fun i=>some i≠(Value.slice V1 n1 cv1).ownBlock) wx w8):=Lh (HK7.out.trans (KS.grown hg8 (fun i e h=>h e.symm)));have HB8:Hid (Below wb.heap.size wb w8):=Lh ((HB6.out.trans (HB7.out.mono HB6.out.size)).grown hg8 (by have:=HB6.out.size;have:=HB7.out.size;omega) (fun q hq=>by have:=(HOL.out q hq).1;have:=HS6.out;have:=HZ.out;omega));have HF8:Hid (∃A,∃c,v8=.slice A (n1+1) c):=Lh (by obtain⟨A,c,e,-⟩:=ho8.form;rw[qA,List.length_singleton,HN1.out] at e;exact⟨A,c,e⟩);clear ho8 hg8 hat8;obtain⟨A8,c8,hv8⟩:=HF8.out;subst hv8;clear HF8;refine hK _ _ (fun _=>?_) ?_
 ·exact(HSP.out _ HK8.out)
 clear hK K;(try go_frame);refine tD 14 ⟨some 71,Op.call {callee:=Callee.value (Operand.func 45),args:=#[Operand.tmp 70],argTypes:=#[50]},50,_,_,_⟩ rfl fun K hK=>?_
 go_simp;go_at_call 45;refine(HTX.out w8 HB8.out).mono ?_;rintro e w14 ⟨va,vb,rfl,hr1,hb1⟩;obtain⟨x,y,e2,hr2,hr3⟩:=id hr1;cases e2;obtain⟨A6,c6,e3,-⟩:=hr2;obtain⟨B6,d6,e4,-⟩:=hr3;cases e3;cases e4;have HR14:=Lh hr1;have HK14:Hid (KS (fun i=>some i≠(Value.slice V1 n1 cv1).ownBlock) wx w14):=Lh (HK8.out.trans (KS.of_below hb1 _));have HB14:=Lh hb1;clear hr1 hb1;go_simp;refine hK _ _ (fun _=>?_) ?_
 ·exact(HSP.out _ HK14.out)
 clear hK K;(try go_frame);refine tD 15 ⟨some 72,Op.buildSlice 43 1 #[(0,.tmp 71)],43,_,_,_⟩ rfl fun K hK=>?_
 go_simp;have HR15:Hid (Rep.R (w14.alloc (.cells #[.slice A6 a.length c6,.slice B6 b.length d6] 50)) (Up w8.heap.size) [.slice (some ⟨w14.heap.size,0,none⟩) 1 1] [(⟨a,b⟩:TextP)]):=Lh (QdB (B:=w8.heap.size) (cs:=[.slice A6 a.length c6,.slice B6 b.length d6]) HB14.out.size HR14.out).2;have HB15:Hid (Below w14.heap.size w14 (w14.alloc (.cells #[.slice A6 a.length c6,.slice B6 b.length d6] 50))):=Lh (bR.alloc nL _);have HK15:Hid (KS (fun i=>some i≠(Value.slice V1 n1 cv1).ownBlock) wx (w14.alloc (.cells #[.slice A6 a.length c6,.slice B6 b.length d6] 50))):=Lh (HK14.out.trans (KS.alloc _));generalize w14.alloc (.cells #[.slice A6 a.length c6,.slice B6 b.length d6] 50)=w15 at*;refine hK _ _ (fun _=>?_) ?_
 ·exact(HSP.out _ HK15.out)
 clear hK K;(try go_frame);refine tD 16 ⟨some 73,Op.call {callee:=Callee.builtin Builtin.append,args:=#[Operand.tmp 69,Operand.tmp 72],argTypes:=#[43,43]},43,_,_,_⟩ rfl fun K hK=>?_
 have HSd:Hid (Sl w15 (fun b=>b<w15.heap.size) V2 n2 (s5.texts.map (Av.mk:TextP→Av TextP (fun b=>g<b)))):=Lh (by
  obtain⟨A,c,e,hs,-⟩:=Rep.keep HCK6.out.kt (w':=w15) (fun i hi hl=>HK15.out.block i hi.2 hl)
  injection e with e
  cases e
  exact(hs.av (fun i hi _=>hi.1)).mono (fun i hi hl=>hl))
 have HNd:Hid (Sl w15 (fun b=>b<w15.heap.size) (some ⟨w14.heap.size,0,none⟩) 1 [(⟨⟨a,b⟩⟩:Av TextP (fun b=>g<b))]):=Lh (by
  obtain⟨A,c,e,hs,-⟩:=HR15.out
  cases e
  refine Sl.mono (Sl.av (α:=TextP) (P:=fun b=>g<b) hs (fun i hi _=>?_)) (fun i hi hl=>hl)
  have hi:w8.heap.size≤i:=hi
  have:=HS6.out
  have:=HK8.out.size
  show g<i
  omega)
 refine wp_fresh (α:=Av TextP (fun b=>g<b)) (.tmp 69) (.tmp 72) 43 rfl 50 (.agg #[.slice none 0 0,.slice none 0 0]) 48 Tryz.underlying43 Qb9 rfl (show 0<2 by decide) V2 n2 (s5.texts.map Av.mk) rfl (by rw[qM];exact HN2.out) HSd.out (some ⟨w14.heap.size,0,none⟩) 1 1 [⟨⟨a,b⟩⟩] rfl rfl HNd.out (by omega) (by omega) (by omega) ?_;intro v16 w16 ho16 hb16;have HF16:Hid (∃A,∃c,v16=.slice A (n2+1) c):=Lh (by obtain⟨A,c,e,-⟩:=ho16.form;rw[qA,List.length_singleton,qM,HN2.out] at e;exact⟨A,c,e⟩);have HO16:Hid (Rep.R w16 (fun b=>g<b) [v16] (s5.texts++[(⟨a,b⟩:TextP)])):=Lh ((show OwnP w16 w15.heap.size 50 v16 (s5.texts++[(⟨a,b⟩:TextP)]) (fun b=>g<b) from⟨by rw[List.map_append];exact ho16,fun q hq=>by have:=(ho16.lt q hq).1;have:=HS6.out;have:=HK15.out.size;show g<q;omega⟩).rep (by rw[qA,List.length_singleton,HN2.out];omega) (fun i hi _=>hi));have HK16:Hid (KS (fun i=>some i≠(Value.slice V1 n1 cv1).ownBlock) wx w16):=Lh (HK15.out.trans (KS.of_below hb16 _));have HB16:Hid (Below w8.heap.size w8 w16):=Lh ((HB14.out.trans (HB15.out.mono HB14.out.size)).trans (hb16.mono (by have:=HB14.out.size;have:=HB15.out.size;omega)));clear ho16 hb16;obtain⟨A16,c16,hv16⟩:=HF16.out;subst hv16;clear HF16 HSd HNd;have HCELL:Hid (w16.cell? ⟨g,k*4+2,none⟩=some (.slice V1 n1 cv1)∧w16.cell? ⟨g,k*4+3,none⟩=some (.slice V2 n2 n2)):=Lh ⟨(HSP.out _ HK16.out).1,(HSP.out _ HK16.out).2.1⟩
 have HFZ:Hid (∀o,w16.frozen? ⟨g,o,none⟩=false):=Lh (fun o=>by
  have h2:=HK16.out.block g HOG.out HCK6.out.glt
  have h3:w16.frozen? ⟨g,o,none⟩=wx.frozen? ⟨g,o,none⟩:=(by simp only[World.frozen?,h2])
  exact h3.trans (HCK6.out.cells.2.2.2.2 o))
 refine hK _ _ (fun _=>?_) ?_
 ·exact(HSP.out _ HK16.out)
 clear hK K;(try go_frame);refine tG 17 ⟨some 74,Op.nilCheck (.tmp 57),0,_,_,_⟩ ?_ rfl ?zq56 ((HSP.out _ HK16.out)) ?zq57;(case zq56=>intro _ s;clear s;go_simp;(try with_reducible rfl));(all_goals try go_frame);refine tG 18 ⟨some 75,Op.fieldAddr 45 (.tmp 74) 2,0,_,_,_⟩ ?_ rfl ?zq58 ((HSP.out _ HK16.out)) ?zq59;(case zq58=>intro _ s;clear s;go_simp;(try with_reducible rfl));(all_goals try go_frame);refine tD 19 ⟨none,Op.store 22 (.tmp 75) (.tmp 65),0,_,_,_⟩ rfl fun K hK=>?_
 have x2:=HCELL.out.1;have y2:=HFZ.out (k*4+2);go_simp;clear x2 y2;refine hK _ _ (fun h=>absurd h (by decide)) ?_;clear hK K;(try simp only[Act.put]);refine tF 20 ⟨some 76,Op.nilCheck (.tmp 58),0,_,_,_⟩ ?_ rfl ?zq60 ?zq61;(case zq60=>intro wS;go_simp;(try with_reducible rfl));(all_goals try go_frame);refine tF 21 ⟨some 77,Op.fieldAddr 45 (.tmp 76) 3,0,_,_,_⟩ ?_ rfl ?zq62 ?zq63;(case zq62=>intro wS;go_simp;(try with_reducible rfl));(all_goals try go_frame);refine tD 22 ⟨none,Op.store 43 (.tmp 77) (.tmp 73),0,_,_,_⟩ rfl fun K hK=>?_
 have x3:(w16.setCell ⟨g,k*4+2,none⟩ (.slice A8 (n1+1) c8)).cell? ⟨g,k*4+3,none⟩=some (.slice V2 n2 n2):=(World.cell?_setCell_other _ _ _ _ (by intro h;injection h with _ h;omega)).trans HCELL.out.2;have y3:(w16.setCell ⟨g,k*4+2,none⟩ (.slice A8 (n1+1) c8)).frozen? ⟨g,k*4+3,none⟩=false:=(World.frozen?_setCell _ _ _ _).trans (HFZ.out _);go_simp;clear x3 y3;refine hK _ _ (fun h=>absurd h (by decide)) ?_;clear hK K;(try simp only[Act.put]);refine Qaf (by kernel_rfl) ?_ _;unfold Exit.then;obtain⟨hfin,hgf⟩:=HCK6.out.fin (W':=w16) (HK16.out.kept.mono (fun i hi=>hi.2)) (HO8.out.below HB16.out) HO16.out;have HSx:=HS6.out;have hqy:((w16.setCell ⟨g,k*4+2,none⟩ (.slice A8 (n1+1) c8)).setCell ⟨g,k*4+3,none⟩ (.slice A16 (n2+1) c16)).cell? ⟨g,k*4+2,none⟩=some (.slice A8 (n1+1) c8):=(World.cell?_setCell_other _ _ _ _ (by intro h;injection h with _ h;omega)).trans (World.cell?_setCell_same (w:=w16) (a:=⟨g,k*4+2,none⟩) _ HCELL.out.1);have hxo:ABox w16 ob 27 [.int .i64 m,.int .i64 h,.slice (some ⟨g,0,none⟩) l.length l.length]:=(HK16.out.block ob (fun e=>by have:=HNO5.out _ e.symm;omega) HX6.out.lt).trans HX6.out;have hx2:ABox w16 (w.heap.size+2) 27 [.int .i64 0,.int .i64 0,.slice none 0 0]:=(HK16.out.block (w.heap.size+2) (fun e=>by have:=(HOL.out _ e.symm).1;omega) HX26.out.lt).trans HX26.out;have hbf:Below wb.heap.size wb w16:=HB8.out.trans (HB16.out.mono HB8.out.size);generalize (w16.setCell ⟨g,k*4+2,none⟩ (.slice A8 (n1+1) c8)).setCell ⟨g,k*4+3,none⟩ (.slice A16 (n2+1) c16)=wy at*;have HXy:Hid (ABox wy ob 27 [.int .i64 m,.int .i64 h,.slice (some ⟨g,0,none⟩) l.length l.length]):=Lh ((hgf.block ob hxo.lt (fun e=>by injection e with e;omega)).trans hxo);have HX2y:Hid (ABox wy (w.heap.size+2) 27 [.int .i64 0,.int .i64 0,.slice none 0 0]):=Lh ((hgf.block _ hx2.lt (fun e=>by injection e with e;omega)).trans hx2);have HBy:Hid (Below wb.heap.size wb wy):=Lh (hbf.grown hgf hbf.size (fun q hq=>by cases hq;have:=HZ.out;omega));rw[HFI5.out.1,HFI5.out.2] at hfin;have HOy:=Lh hfin;clear hfin hgf hxo hx2 hbf hS0 HSP;clear HCK6 HB6 HX6 HX16 HX26 HK7 HK8 HK14 HK15 HK16 HO8 HO16 HR7 HR14 HR15 HB7 HB8 HB14 HB15 HB16 HCELL HFZ HOG HOL HTX;have hLl:(l.set k (Qaz s version ⟨a,b⟩)).length=l.length:=List.length_set;obtain⟨L,hL⟩:∃L,l.set k (Qaz s version ⟨a,b⟩)=L:=⟨_,rfl⟩;rw[hL] at HOy HSH HWF HPN hLl;have HL:=Lh hL;clear hL
 have HOK:Hid (BookOk wy m h (some ⟨g,0,none⟩) l.length L):=Lh ⟨HLA.out.to HBy.out,by
  obtain⟨A,c,e,hs⟩:=HOy.out.sl
  rw[hLl] at e
  cases e
  exact hs.mono (fun i _ hl=>hl),HSH.out,HWF.out,HI.out,HPN.out⟩
 have HFI:=Lh (Qei HOK.out);rw[hLl] at HFI;have k0:=HXy.out.cell 0 rfl;have k1:=HXy.out.cell 1 rfl;have k2:=HXy.out.cell 2 rfl;clear hLl HSH HWF HOK;obtain⟨np,hnp⟩:∃np,(Qac m h L).length=np:=⟨_,rfl⟩;rw[hnp] at HFI;have HNP:=Lh hnp;clear hnp HPN;have hn100:¬((n1+1:Nat):Int)>100:=by omega
 by_cases hn:16384<np
 ·have hfv:∀v,QaV m h v np=.tuple #[.agg #[.int .i64 0,.int .i64 0,.slice none 0 0],.int .i64 2]:=fun v=>by unfold QaV;rw[if_pos hn]
  have HFV:=Lh hfv;rw[hfv] at HFI;clear hfv hn
  go_wp2_with (first
   |(go_at_call 69;refine HFI.out.mono ?_;rintro e w7 ⟨rfl,hb7⟩;have HB7:=Lh hb7;have HX27:=Lh (HX2y.out.to hb7);clear hb7 k0 k1 k2;have k0:=HX27.out.cell 0 rfl;have k1:=HX27.out.cell 1 rfl;have k2:=HX27.out.cell 2 rfl;have f0:=HX27.out.fz 0;have f1:=HX27.out.fz 1;have f2:=HX27.out.fz 2)
   |fail)
  have hn1:∀i,Up g i→i≠w.heap.size+2:=fun i (hi:g≤i)=>by have:=HS6.out;omega
  exact bodyPost_ret (v:=.tuple #[.agg #[.int .i64 0,.int .i64 0,.slice none 0 0],.int .i64 2]) (Qab Tryz.results38 _ _ (w.heap.size+2) _ #[.int .i64 0,.int .i64 0,.slice none 0 0] (0,0) _ rfl (Qax HX27.out _ _ _) Tryz.underlying27 rfl (by kernel_rfl)) rfl ⟨.slice (some ⟨g,0,none⟩) l.length l.length,by rw[HL.out,HNP.out,HFV.out],by rw[HL.out];exact Qcz ((((HOy.out.below HB7.out).set (w.heap.size+2) 0 _ hn1).set (w.heap.size+2) 1 _ hn1).set (w.heap.size+2) 2 _ hn1) (by omega),below3 ((HB.out.trans (HBy.out.mono HB.out.size)).trans (HB7.out.mono (by have:=HB.out.size;have:=HBy.out.size;omega))) (by omega) _ _ _⟩
 ·have hfv:∀v,QaV m h v np=.tuple #[.agg #[.int .i64 m,.int .i64 h,v],.int .i64 0]:=fun v=>by unfold QaV;rw[if_neg hn]
  have HFV:=Lh hfv;rw[hfv] at HFI;clear hfv hn
  go_wp2_with (first
   |(go_at_call 69;refine HFI.out.mono ?_;rintro e w7 ⟨rfl,hb7⟩;have HB7:=Lh hb7;have HX27:=Lh (HX2y.out.to hb7);clear hb7 k0 k1 k2;have k0:=HX27.out.cell 0 rfl;have k1:=HX27.out.cell 1 rfl;have k2:=HX27.out.cell 2 rfl;have f0:=HX27.out.fz 0;have f1:=HX27.out.fz 1;have f2:=HX27.out.fz 2)
   |fail)
  have hn1:∀i,Up g i→i≠w.heap.size+2:=fun i (hi:g≤i)=>by have:=HS6.out;omega
  exact bodyPost_ret (v:=.tuple #[.agg #[.int .i64 m,.int .i64 h,.slice (some ⟨g,0,none⟩) l.length l.length],.int .i64 0]) (Qab Tryz.results38 _ _ (w.heap.size+2) _ #[.int .i64 m,.int .i64 h,.slice (some ⟨g,0,none⟩) l.length l.length] (0,0) _ rfl (Qax HX27.out _ _ _) Tryz.underlying27 rfl (by kernel_rfl)) rfl ⟨.slice (some ⟨g,0,none⟩) l.length l.length,by rw[HL.out,HNP.out,HFV.out],by rw[HL.out];exact Qcz ((((HOy.out.below HB7.out).set (w.heap.size+2) 0 _ hn1).set (w.heap.size+2) 1 _ hn1).set (w.heap.size+2) 2 _ hn1) (by omega),below3 ((HB.out.trans (HBy.out.mono HB.out.size)).trans (HB7.out.mono (by have:=HB.out.size;have:=HBy.out.size;omega))) (by omega) _ _ _⟩
end Go.Proofs.YtakaielemicpkaaGreatDoor
namespace Go.Proofs.YtakaielemicpkaaGreatDoor
open Go.RowKit Go.Shelf
theorem Qdi:(Tryz.prog.info? 88).map (fun i=>(i.zero,i.size,i.bytes))=some (some (.agg #[.int .i64 0,.int .i64 0,.slice none 0 0,.slice none 0 0]),Rep.size LineP,64):=by kernel_rfl
theorem grow_nilL (n:Nat)(w:World)(hn:n≤4194304):
 Calls Tryz.prog 73 #[.slice none 0 0,.int .i64 (n:Int)] w fun e w'=>∃v,e=.returned v∧Own w' w.heap.size 88 v ([]:List LineP)∧Below w.heap.size w w':=by
 by_cases h0:n=0
 ·subst h0;exact(Any8.slices_Grow_room growL none 0 0 0 w (by omega) (by omega) (by omega) (by omega)).mono fun e w' ⟨he,hw⟩=>⟨_,he,Own.nil _ _ _,by rw[hw];exact Below.refl _ _⟩
 ·obtain⟨i,hi,hz,hz1,hz2⟩:=info_parts Qdi;have h1:=grownCap_ge w (0+n) 0 (Qej.t 25);have h2:=grownCap_le_maxLen w (0+n) 0 (Qej.t 25) (by unfold maxLen;omega);refine(Any8.slices_Grow_grow growL i (.agg #[.int .i64 0,.int .i64 0,.slice none 0 0,.slice none 0 0]) hi hz (by rw[hz1];decide) none 0 0 n [] w (by omega) (by omega) (by rw[hz2];omega) (by omega) (by simp) (fun _=>rfl) (fun a h=>by cases h)).mono ?_;rintro e w' ⟨he,rfl⟩;refine⟨_,he,⟨[],⟨by simp,.inr ⟨w.heap.size,_,_,rfl,Nat.le_refl _,heap_alloc_new w.drew _,by simp,h2,?_,by simp⟩⟩,by simp,fun i h=>absurd h (by simp)⟩,?_⟩
  ·have e:(Value.agg #[.int .i64 0,.int .i64 0,.slice none 0 0,.slice none 0 0]).cells.size=4:=rfl;simp only[Array.size_append,size_zeroCells,e];show 0+(0+n-0)*4+(_-(0+n))*4=_*4;omega
  ·exact(bR.drew).alloc nL _
theorem concatL_any (Q:Nat)(A B:Option Addr)(c d:Nat)(a b:List LineP)(w:World)(h0:w.cell? ⟨Q,0,none⟩=some (.slice A a.length c))(h1:w.cell? ⟨Q,1,none⟩=some (.slice B b.length d)) (ha:Sl w (fun b=>b<w.heap.size) A c a) (hb:Sl w (fun b=>b<w.heap.size) B d b) (hla:a.length≤1048576) (hlb:b.length≤1048576):
 Calls Tryz.prog 41 #[.slice (some ⟨Q,0,none⟩) 2 2] w fun e w'=>∃v,e=.returned v∧Own w' w.heap.size 88 v (a++b)∧Below w.heap.size w w':=by
 have Ha:=Lh ha;have Hb:=Lh hb;have H0:=Lh h0;have H1:=Lh h1;have hQ:=World.block_lt_of_cell? w _ h0;clear ha hb;go_enter Tryz.func41,Tryz.ntmps41;go_wp2_with fail;go_loop [3,5,11] (fun n _ i=>∃k:Nat,k≤2∧i=.int .i64 k∧n=.int .i64 ((QcJ a b k).length:Int)) (fun _ _ i=>2-(intOf i).toNat);(case atStart=>exact⟨0,by omega,rfl,rfl⟩);case round=>
  obtain⟨k,hk,rfl,rfl⟩:=hrel;rcases(show k=0∨k=1∨k=2 by omega) with rfl|rfl|rfl
  ·have e:(QcJ a b 0).length=0:=rfl;rw[e];clear e;go_wp2_with fail;go_round;(case rel=>exact⟨1,by omega,rfl,by simp[QcJ]⟩);case measure=>simp[intOf]
  ·have e:(QcJ a b 1).length=a.length:=rfl;rw[e];clear e;go_wp2_with fail;go_round;(case rel=>exact⟨2,by omega,rfl,by simp[QcJ]⟩);case measure=>simp[intOf]
  ·have e:(QcJ a b 2).length=a.length+b.length:=by simp[QcJ]
   rw[e];clear e h0 h1;go_wp2_with fail;refine(grow_nilL (a.length+b.length) w (by omega)).mono ?_;rintro e wG ⟨v,rfl,hownG,hbG⟩;have HbG:=Lh hbG;have HoG:=Lh hownG;clear hbG hownG;go_wp2_with fail;go_loopw [6,8,27] (fun v _ i wr=>∃k:Nat,k≤2∧i=.int .i64 k∧Own wr w.heap.size 88 v (QcJ a b k)∧Below w.heap.size w wr) (fun _ _ i _=>2-(intOf i).toNat);(case atStart=>exact⟨0,by omega,rfl,HoG.out,HbG.out⟩);case round=>
    obtain⟨k,hk,rfl,hown,hb3⟩:=hrel;rcases(show k=0∨k=1∨k=2 by omega) with rfl|rfl|rfl
    ·have hown:Own wr w.heap.size 88 _ ([]:List LineP):=hown;obtain⟨A2,c2,rfl,_⟩:=hown.sl;have hc:=(hb3.cell (p:=⟨Q,0,none⟩) hQ).trans H0.out;have hz3:=hb3.size;go_wp2_with (at_builtin;refine Qar (α:=LineP) _ rfl (.tmp 31) (.tmp 32) 34 rfl w.heap.size 88 (.agg #[.int .i64 0,.int .i64 0,.slice none 0 0,.slice none 0 0]) 64 Tryz.underlying34 Qdi rfl (by decide) _ [] rfl hown A c a.length a rfl rfl (fun b=>b<w.heap.size) (Ha.out.keep (Kept.all hb3) hz3) (by intro i (hi:i<w.heap.size) _ e;have:=(hown.lt i e.symm).1;omega) (by first|omega|(simp;done)|(simp;omega)) (by first|omega|(simp;done)|(simp;omega)) (by first|omega|(simp;done)|(simp;omega)) ?_;intro v2 w2 hown2 hg2 hat2);go_roundw;(case rel=>exact⟨1,by omega,rfl,by rw[List.nil_append] at hown2;exact hown2,QaP hb3 hown hz3 hg2⟩);case measure=>simp[intOf]
    ·have hown:Own wr w.heap.size 88 _ (a:List LineP):=hown;obtain⟨A2,c2,rfl,_⟩:=hown.sl;have hc:=(hb3.cell (p:=⟨Q,1,none⟩) hQ).trans H1.out;have hz3:=hb3.size;go_wp2_with (at_builtin;refine Qar (α:=LineP) _ rfl (.tmp 31) (.tmp 32) 34 rfl w.heap.size 88 (.agg #[.int .i64 0,.int .i64 0,.slice none 0 0,.slice none 0 0]) 64 Tryz.underlying34 Qdi rfl (by decide) _ a rfl hown B d b.length b rfl rfl (fun b=>b<w.heap.size) (Hb.out.keep (Kept.all hb3) hz3) (by intro i (hi:i<w.heap.size) _ e;have:=(hown.lt i e.symm).1;omega) (by first|omega|(simp;done)|(simp;omega)) (by first|omega|(simp;done)|(simp;omega)) (by first|omega|(simp;done)|(simp;omega)) ?_;intro v2 w2 hown2 hg2 hat2);go_roundw;(case rel=>exact⟨2,by omega,rfl,hown2,QaP hb3 hown hz3 hg2⟩);case measure=>simp[intOf]
    ·go_wp2_with fail;go_ret;exact⟨_,rfl,hown,hb3⟩
end Go.Proofs.YtakaielemicpkaaGreatDoor
