/- Texts of BookC10. -/
import Derived.Test.YtakaielemicpkaaGreatDoorBZg5
import Derived.Deep.RegionLaw
import Derived.Shelf.RegionOpenPlain
import Derived.Lib.SliceRun
set_option maxHeartbeats 16000000
namespace Go.Proofs.YtakaielemicpkaaGreatDoor
open Go.RowKit
theorem Laid.ks {w w':World}{n₀:Nat}(h:Laid w)(hg:0<n₀)(hk:KS (fun i=>i<n₀) w w'):Laid w':=by
 unfold Laid Lib.TabIs World.var? at h ⊢;rw[gW] at h ⊢;simp only[Option.bind_some] at h ⊢;have hlt:0<w.heap.size:=by
  rcases Nat.lt_or_ge 0 w.heap.size with h'|h'
  ·exact h'
  ·rw[Array.getElem?_eq_none h'] at h;cases h
 rw[hk.block _ hg hlt];exact h
theorem otext_any (A B:Option Addr)(c d:Nat)(a b:List (List Word))(m h:Int)(w:World)(hT:Laid w)(ha:Sl w (fun b=>b<w.heap.size) A c a)(hb:Sl w (fun b=>b<w.heap.size) B d b)(hI:I64 h)(hla:a.length≤1048576)(hlb:b.length≤1048576):
 Calls Tryz.prog 66 #[.agg #[.slice A a.length c,.slice B b.length d],.int .i64 m,.int .i64 h] w fun e w'=>∃A' c' q,e=.returned (.tuple #[.slice A' (Qak a b m h).length c',.int .i64 q])∧ OwnP w' w.heap.size 36 (.slice A' (Qak a b m h).length c') (Qak a b m h) (Up w.heap.size)∧Below w.heap.size w w':=by
 refine(ptext_any A B c d a b m h w hT ha hb hI hla hlb).mono ?_;rintro e w' ⟨v,rfl,h1,h2,hb⟩;by_cases hE:textE a b m h=0
 ·have ho:=(h1 hE).up nL;have he:Qak a b m h=Qa0 a b m h.toNat:=(by unfold Qak;rw[if_pos hE]);rw[←he] at ho;obtain⟨A',c',rfl,-,-⟩:=ho.len;exact⟨A',c',_,rfl,ho,hb⟩
 ·have he:Qak a b m h=[]:=by unfold Qak;rw[if_neg hE]
  rw[h2 hE,he];exact⟨none,0,_,rfl,OwnP.nil _ _ _ _,hb⟩
theorem page_at {w:World}{S:Nat→Prop}{A:Option Addr}{c:Nat}{l:List PageP}(h:Sl w S A c l){k:Nat}(hk:k<l.length):
 ∃b o va vb,A=some ⟨b,o,none⟩∧S b∧b<w.heap.size∧w.cell? ⟨b,o+k*6,none⟩=some (.int .i64 l[k].num)∧w.cell? ⟨b,o+k*6+1,none⟩=some (.int .i64 l[k].suf)∧w.cell? ⟨b,o+k*6+2,none⟩=some (.int .i64 l[k].entry)∧ w.cell? ⟨b,o+k*6+3,none⟩=some (.int .i64 l[k].ver)∧w.cell? ⟨b,o+k*6+4,none⟩=some va∧w.cell? ⟨b,o+k*6+5,none⟩=some vb∧Rep.R w S [va] l[k].body∧Rep.R w S [vb] l[k].notes:=by
 obtain⟨b,o,es,rfl,hb,hlt,⟨va,vb,rfl,h1,h2⟩,hc⟩:=h.at_ hk;exact⟨b,o,va,vb,rfl,hb,hlt,hc 0 _ rfl,hc 1 _ rfl,hc 2 _ rfl,hc 3 _ rfl,hc 4 _ rfl,hc 5 _ rfl,h1,h2⟩
theorem plainB_cons (m h:Int)(s:SectP)(hl:0<s.texts.length):QaA m h s=(Qak s.texts[0].a s.texts[0].b m h).length:=by
 obtain⟨e,f,vs,ts⟩:=s;cases ts with
 |nil=>exact absurd hl (by simp)
 |cons t ts=>rfl
def WfS (l:List SectP):Prop:=∀s∈l,s.texts.length≤s.vers.length
set_option maxRecDepth 100000 in
theorem all1_any (n lp Bb n₀:Nat)(A:Option Addr)(c:Nat)(ls:List SectP)(m h:Int)(J:JT)(Jx:List PV→World→Prop)(W0:World)(hT:Laid W0)(hg:0<n₀)(hn:n₀≤W0.heap.size)(hBb:Bb<n₀) (hbk:ABox W0 Bb 27 [.int .i64 m,.int .i64 h,.slice A ls.length c]) (hs:Sl W0 (fun b=>b<n₀) A c ls) (hsh:QaO ls) (hwf:WfS ls) (hI:I64 h) (hJ:∀pre M R A B,J pre M R A→KS (fun i=>i<W0.heap.size∨R i) A B→J pre M R B)
 (hY:∀pre M R x W1 PM,J pre M R W1→W0.heap.size≤W1.heap.size→pre.length<(Qac m h ls).length→PV.Pr PM x W1→(∀i,PM i→i<W1.heap.size→W0.heap.size≤i∧¬M i)→ YieldAt Fence.wide n Tryz.prog lp x.enc W1 fun e W'=>
   (e=.returned (.bool true)∧∃M' R',J (pre++[x]) M' R' W'∧KS (fun i=>i<n₀∨(W0.heap.size≤i∧¬M i)) W1 W'∧(∀i,M' i→M i∨(W1.heap.size≤i∧i<W'.heap.size))∧(∀i,R' i→R i∨(PM i∧i<W1.heap.size)∨(W1.heap.size≤i∧i<W'.heap.size)))∨
   (e=.returned (.bool false)∧Jx (pre++[x]) W'))
 (h0:J [] (fun _=>False) (fun _=>False) W0):
 Calls Tryz.prog 65 #[.func (.yield lp) #[] #[],.pointer (some ⟨Bb,0,none⟩)] W0 fun e W'=>(∃v,e=.returned v)∧((∃xs,xs.map PV.plain=Qac m h ls∧∃M R,J xs M R W')∨(∃pre,(∃k,pre.map PV.plain=(Qac m h ls).take k)∧Jx pre W')):=by
 have HJ:=Lh hJ;have HY:=Lh hY;have HS:=Lh hs;have HSH:=Lh hsh;have HWF:=Lh hwf;have HT:=Lh hT;have HBK:=Lh hbk;have HI:=Lh hI;have hls:ls.length≤1048576:=hsh.1;have HPN:=Lh (pagesB_len (m:=m) (h:=h) hsh);obtain⟨wb,hwb⟩:∃wb,W0.alloc (.cells #[.int .i64 0,.int .i64 0] 24)=wb:=⟨_,rfl⟩;have hba:Below W0.heap.size W0 wb:=by rw[←hwb];exact bR.alloc nL _
 have hlab:ABox wb W0.heap.size 24 [.int .i64 0,.int .i64 0]:=by rw[←hwb];exact heap_alloc_new W0 _
 have HAI:Hid (AI n₀ W0.heap.size W0 J 0 0 [] (fun _=>False) (fun _=>False) wb):=Lh ⟨hJ _ _ _ _ _ h0 (KS.of_below hba _),KS.of_below hba _,hlab,Nat.le_refl _,fun h=>h,fun h=>h,fun _ h=>h.elim,fun _ h=>h.elim⟩;have b2:=(hbk.to hba).cell 2 rfl;have HWB:=Lh hwb;clear hJ hY hs hsh hwf hT hbk hI h0 hba hlab hwb;go_enter Tryz.func65,Tryz.ntmps65;go_upto_region 1 with(fail);rw[HWB.out];go_wp2_with fail;clear b2;obtain⟨Lab,hLab⟩:∃Lab,W0.heap.size=Lab:=⟨_,rfl⟩;have HLE:=Lh hLab;rw[hLab] at HAI ⊢;clear hLab HWB;go_loopw [16] (fun v16 wr=>∃(k:Nat) (num suf:Int) (pre:List PV) (M R:Nat→Prop),k≤ls.length∧v16=.int .i64 (k:Int)∧Hid (AI n₀ Lab W0 J num suf pre M R wr)∧Hid (pre.map PV.plain++Qaq m h num (ls.drop k)=Qac m h ls)∧Hid (0≤num∧num≤pre.length)) (fun v16 _=>ls.length-(intOf v16).toNat);(case atStart=>exact⟨0,0,0,[],_,_,Nat.zero_le _,rfl,HAI,Lh rfl,Lh ⟨Int.le_refl _,Int.le_refl _⟩⟩);case round=>
  clear HAI;clear wb;obtain⟨k,num0,suf0,pre,M,R,hk,rfl,HAI,HEQ,HB⟩:=hrel;by_cases hlt:k<ls.length
  ·obtain⟨wo,rfl⟩:∃wo:World,wo=wr:=⟨_,rfl⟩;have hkl:(k:Int)<(ls.length:Int):=(by omega);have hk0:(0:Int)≤(k:Int):=(by omega);have hlc:ls.length≤c:=HS.out.1;have HSr:Hid (Sl wo (fun b=>b<n₀) A c ls):=Lh (HS.out.old HAI.out.old.kept (by have:=HAI.out.old.size;omega));obtain⟨b,o,Ag,cg,An,cn,hA,hbg,hbl,r0,r1,r2,r3,hvS,htS,-⟩:=Qbv HSr.out hlt;subst hA;have HXS:=Lh (HSH.out.2 ls[k] (List.getElem_mem hlt));have HXW:=Lh (HWF.out ls[k] (List.getElem_mem hlt))
   have HEQ2:Hid (pre.map PV.plain++(QaJ m h ls[k].entry 0 num0 0 ls[k].vers ls[k].texts++Qaq m h (num0+QaA m h ls[k]) (ls.drop (k+1)))=Qac m h ls):=Lh (by
    have:=HEQ.out
    rw[List.drop_eq_getElem_cons hlt,Qaq] at this
    exact this)
   obtain⟨x,hx⟩:∃x,ls[k]=x:=⟨_,rfl⟩;rw[hx] at r0 r1 r2 r3 hvS htS HXS HXW HEQ2;have HVS:Hid (Sl W0 (fun b=>b<n₀) Ag cg x.vers):=Lh (hvS.old (fun i (hi:i<n₀) _=>(HAI.out.old.block i hi (by omega)).symm) hn);have HTS:Hid (Sl W0 (fun b=>b<n₀) An cn x.texts):=Lh (htS.old (fun i (hi:i<n₀) _=>(HAI.out.old.block i hi (by omega)).symm) hn);clear hx hvS htS HSr HEQ;have hm9:x.texts.length≤1048576:=HXS.out.2.1;obtain⟨ws,hws⟩:∃ws,wo.alloc (.cells #[.int .i64 x.entry,.bool x.frozen,.slice Ag x.vers.length cg,.slice An x.texts.length cn] 45)=ws:=⟨_,rfl⟩;have hbs:Below wo.heap.size wo ws:=(by rw[←hws];exact bR.alloc nL _);have hys:ABox ws wo.heap.size 45 [.int .i64 x.entry,.bool x.frozen,.slice Ag x.vers.length cg,.slice An x.texts.length cn]:=(by rw[←hws];exact heap_alloc_new wo _);have hll:Lab<wo.heap.size:=HAI.out.lab.lt;have HLLT:=Lh hll;have HAS:=Lh (HAI.out.to HJ.out hbs);have q1:=HAS.out.lab.cell 1 rfl;have f1:=HAS.out.lab.fz 1;have HA2:=Lh (HAS.out.setSuf HJ.out hn 0);have HY2:=Lh (hys.other (show wo.heap.size≠Lab by omega) 1 (.int .i64 0));have y3:=HY2.out.cell 3 rfl;have HSX:Hid (W0.heap.size≤wo.heap.size∧¬M wo.heap.size∧wo.heap.size<ws.heap.size):=Lh ⟨HAI.out.old.size,fun h=>by have:=HAI.out.mM _ h;omega,hys.lt⟩;have HWS:=Lh hws;clear hws hbs hys hll HAI HAS;go_upto_region 4 with(fail);rw[HWS.out];go_upto_region 5 with(fail);clear q1 f1 r0 r1 r2 r3;have HSK:Hid (ws.heap.size=(ws.setCell ⟨Lab,1,none⟩ (.int .i64 0)).heap.size):=Lh (by simp);obtain⟨Sx,hSx⟩:∃Sx,wo.heap.size=Sx:=⟨_,rfl⟩;have HSXE:=Lh hSx;rw[hSx] at HY2 HSX y3 ⊢;clear hSx;obtain⟨wt,hwt⟩:∃wt,ws.setCell ⟨Lab,1,none⟩ (.int .i64 0)=wt:=⟨_,rfl⟩;rw[hwt] at HA2 HY2 y3 HSK ⊢;clear hwt;go_wp2_with fail;clear y3
   go_loopw [24] (fun v24 wr=>∃(j:Nat) (num suf:Int) (pre:List PV) (M R:Nat→Prop),j≤x.texts.length∧v24=.int .i64 (j:Int)∧Hid (AI n₀ Lab W0 J num suf pre M R wr)∧Hid (ABox wr Sx 45 [.int .i64 x.entry,.bool x.frozen,.slice Ag x.vers.length cg,.slice An x.texts.length cn]∧¬M Sx)∧ Hid (pre.map PV.plain++(QaJ m h x.entry j num suf (x.vers.drop j) (x.texts.drop j)++Qaq m h (num0+QaA m h x) (ls.drop (k+1)))=Qac m h ls)∧Hid ((0≤num∧num≤pre.length)∧(0≤suf∧suf≤pre.length))∧Hid ((j=0→num=num0)∧(0<j→num=num0+QaA m h x))) (fun v24 _=>x.texts.length-(intOf v24).toNat)
   (case atStart=>exact⟨0,num0,0,pre,M,R,Nat.zero_le _,rfl,HA2,Lh ⟨HY2.out,HSX.out.2.1⟩,HEQ2,Lh ⟨HB.out,by omega,by omega⟩,Lh ⟨fun _=>rfl,fun h=>absurd h (by omega)⟩⟩);case round=>
    clear HA2 HY2 HEQ2 HB HSK;have HSX1:=Lh HSX.out.1;have HLS:Hid (Lab<Sx):=Lh (by rw[←HSXE.out];exact HLLT.out);clear HSX;clear wt;obtain⟨j,numS,sufS,pre2,M2,R2,hj,rfl,HAI,HYS,HEQ,HB,HNM⟩:=hrel;by_cases hlj:j<x.texts.length
    ·obtain⟨wp,rfl⟩:∃wp:World,wp=wr:=⟨_,rfl⟩;have hjl:(j:Int)<(x.texts.length:Int):=(by omega);have hj0:(0:Int)≤(j:Int):=(by omega);have hszp:n₀≤wp.heap.size:=(by have:=HAI.out.old.size;omega);have HTSr:Hid (Sl wp (fun b=>b<n₀) An cn x.texts):=Lh (HTS.out.old HAI.out.old.kept hszp);obtain⟨b2,o2,Aa,ca,Ab,cb,hA,-,hbl2,t0,t1,haS,hbS⟩:=text_at HTSr.out hlj;subst hA;have hlc2:x.texts.length≤cn:=HTSr.out.1;have HSX2:=Lh (HXS.out.2.2 x.texts[j] (List.getElem_mem hlj));have hjv:j<x.vers.length:=by have:=HXW.out;omega
     have HEQ2:Hid (pre2.map PV.plain++(QaR x.entry x.vers[j] numS sufS j (Qak x.texts[j].a x.texts[j].b m h)++(QaJ m h x.entry (j+1) (if j=0 then numS+(Qak x.texts[j].a x.texts[j].b m h).length else numS) (if j=0 then sufS else sufS+(Qak x.texts[j].a x.texts[j].b m h).length) (x.vers.drop (j+1)) (x.texts.drop (j+1))++ Qaq m h (num0+QaA m h x) (ls.drop (k+1))))=Qac m h ls):=Lh (by
      have h1:=HEQ.out
      rw[List.drop_eq_getElem_cons hlj,List.drop_eq_getElem_cons hjv,QaJ,List.headD_cons,List.tail_cons,List.append_assoc] at h1
      exact h1)
     have HPLB:Hid (j=0→QaA m h x=(Qak x.texts[j].a x.texts[j].b m h).length):=Lh (fun h0=>by
      subst h0
      exact plainB_cons m h x hlj)
     obtain⟨y,hy⟩:∃y,x.texts[j]=y:=⟨_,rfl⟩;rw[hy] at t0 t1 haS hbS HSX2 HEQ2 HPLB;obtain⟨vj,hvj⟩:∃vj,x.vers[j]=vj:=⟨_,rfl⟩;have HVJ:Hid (x.vers[j]? =some vj):=Lh (by rw[qG hjv,hvj]);rw[hvj] at HEQ2;have hpl:=QcV y.a y.b m h;obtain⟨wz,hwz⟩:∃wz,wp.alloc (.cells #[.slice Aa y.a.length ca,.slice Ab y.b.length cb] 50)=wz:=⟨_,rfl⟩;have hbz:Below wp.heap.size wp wz:=(by rw[←hwz];exact bR.alloc nL _);have hzz:ABox wz wp.heap.size 50 [.slice Aa y.a.length ca,.slice Ab y.b.length cb]:=(by rw[←hwz];exact heap_alloc_new wp _);have HAZ:=Lh (HAI.out.to HJ.out hbz);have HYZ:=Lh (HYS.out.1.to hbz);have HBB:Hid (ABox wz Bb 27 [.int .i64 m,.int .i64 h,.slice (some ⟨b,o,none⟩) ls.length c]):=Lh ((HAZ.out.old.block Bb hBb (by omega)).trans HBK.out);have z0:=hzz.cell 0 rfl;have z1:=hzz.cell 1 rfl;have b0:=HBB.out.cell 0 rfl;have b1:=HBB.out.cell 1 rfl
     have HPT:Hid (Calls Tryz.prog 66 #[.agg #[.slice Aa y.a.length ca,.slice Ab y.b.length cb],.int .i64 m,.int .i64 h] wz fun e w'=>∃A' c' q,e=.returned (.tuple #[.slice A' (Qak y.a y.b m h).length c',.int .i64 q])∧ OwnP w' wz.heap.size 36 (.slice A' (Qak y.a y.b m h).length c') (Qak y.a y.b m h) (Up wz.heap.size)∧Below wz.heap.size wz w'):=
      Lh (otext_any Aa Ab ca cb y.a y.b m h wz (HT.out.ks hg HAZ.out.old) ((haS.keep (Kept.all hbz) hbz.size).mono (fun _ _ hl=>hl)) ((hbS.keep (Kept.all hbz) hbz.size).mono (fun _ _ hl=>hl)) HI.out HSX2.out.1.1 HSX2.out.2.1)
     have HZL:Hid (Lab<wz.heap.size∧Sx<wz.heap.size∧W0.heap.size≤wz.heap.size∧(∀i,M2 i→i<wz.heap.size)):=Lh ⟨HAZ.out.lab.lt,HYZ.out.lt,HAZ.out.old.size,HAZ.out.mM⟩;have HWZ:=Lh hwz;have HMX:=Lh HYS.out.2;clear hwz hbz hzz haS hbS HTSr hy hvj HAI HYS HEQ;go_upto_region 8 with(fail);rw[HWZ.out];clear t0 t1;have hsml:=Qck y.a y.b m h;obtain⟨ps,hps⟩:∃ps,Qak y.a y.b m h=ps:=⟨_,rfl⟩;rw[hps] at HPT HEQ2 HPLB hpl hsml;have HSML:=Lh hsml;clear hsml;clear hps
     go_upto_region 9 with(first|(go_at_call 66;refine HPT.out.mono ?_;rintro e w5 ⟨A5,c5,q5,rfl,ho5,hb5⟩)|fail)
     have HA5:=Lh (HAZ.out.to HJ.out hb5);have HY5:=Lh (HYZ.out.to hb5);have HO5:Hid (OwnP w5 wz.heap.size 36 (.slice A5 ps.length c5) ps (fun b=>wz.heap.size≤b∧¬M2 b)):=Lh (ho5.mono fun i (hi:wz.heap.size≤i) _=>⟨hi,fun e=>by have:=HZL.out.2.2.2 i e;omega⟩);have hpc5:ps.length≤c5:=(by obtain⟨A9,c9,e9,-,h9,-⟩:=ho5.len;cases e9;exact h9);clear z0 z1 b0 b1 ho5 hb5 HAZ HYZ HBB HPT;obtain⟨numE,hnumE⟩:∃q,(if j=0 then numS+(ps.length:Int) else numS)=q:=⟨_,rfl⟩;obtain⟨sufE,hsufE⟩:∃q,(if j=0 then sufS else sufS+(ps.length:Int))=q:=⟨_,rfl⟩;rw[hnumE,hsufE] at HEQ2;have HNE:=Lh hnumE;have HSE:=Lh hsufE;clear hnumE hsufE;go_wp2_with fail
     go_loopw [40] (fun v40 wr=>∃(q:Nat) (num suf:Int) (pre:List PV) (M R:Nat→Prop),q≤ps.length∧v40=.int .i64 (q:Int)∧Hid (AI n₀ Lab W0 J num suf pre M R wr)∧Hid (ABox wr Sx 45 [.int .i64 x.entry,.bool x.frozen,.slice Ag x.vers.length cg,.slice (some ⟨b2,o2,none⟩) x.texts.length cn]∧¬M Sx)∧ Hid (OwnP wr wz.heap.size 36 (.slice A5 ps.length c5) ps (fun b=>wz.heap.size≤b∧¬M b))∧Hid (pre.map PV.plain++(QaR x.entry vj num suf j (ps.drop q)++(QaJ m h x.entry (j+1) numE sufE (x.vers.drop (j+1)) (x.texts.drop (j+1))++Qaq m h (num0+QaA m h x) (ls.drop (k+1))))=Qac m h ls)∧ Hid ((0≤num∧num≤pre.length)∧(0≤suf∧suf≤pre.length))∧Hid (num=(if j=0 then numS+(q:Int) else numS)∧suf=(if j=0 then sufS else sufS+(q:Int)))) (fun v40 _=>ps.length-(intOf v40).toNat)
     (case atStart=>exact⟨0,numS,sufS,pre2,M2,R2,Nat.zero_le _,rfl,HA5,Lh ⟨HY5.out,HMX.out⟩,HO5,HEQ2,HB,Lh ⟨by split<;>simp,by split<;>simp⟩⟩);case round=>
      clear HA5 HY5 HO5 HEQ2 HB HMX;have HZ3:Hid (Lab<wz.heap.size∧Sx<wz.heap.size∧W0.heap.size≤wz.heap.size):=Lh ⟨HZL.out.1,HZL.out.2.1,HZL.out.2.2.1⟩;clear HZL;clear pre2 M2 R2 w5;obtain⟨q,num,suf,pre3,M3,R3,hq,rfl,HAI,HYS,HO,HEQ,HB,HNS⟩:=hrel;by_cases hlq:q<ps.length
      ·obtain⟨wl,rfl⟩:∃wl:World,wl=wr:=⟨_,rfl⟩;have hql:(q:Int)<(ps.length:Int):=(by omega);have hq0:(0:Int)≤(q:Int):=(by omega);obtain⟨A9,c9,e9,hps⟩:=HO.out.sl;cases e9;obtain⟨b3,o3,va,vb,hA5,-,hb3l,p0,p1,p2,p3,p4,p5,hrb,hrn⟩:=page_at hps hlq;subst hA5
       have HEQ3:Hid (pre3.map PV.plain++({ps[q] with num:=if j=0 then num+1 else num,suf:=if j=0 then suf else suf+1,entry:=x.entry,ver:=vj}::(QaR x.entry vj (if j=0 then num+1 else num) (if j=0 then suf else suf+1) j (ps.drop (q+1))++(QaJ m h x.entry (j+1) numE sufE (x.vers.drop (j+1)) (x.texts.drop (j+1))++Qaq m h (num0+QaA m h x) (ls.drop (k+1)))))=Qac m h ls):=Lh (by
        have h1:=HEQ.out
        rw[List.drop_eq_getElem_cons hlq,Qbx] at h1
        exact h1)
       have HRB:=Lh hrb;have HRN:=Lh hrn;obtain⟨Ab9,cb9,eb,-,-⟩:=hrb;obtain⟨An9,cn9,en,-,-⟩:=hrn;injection eb with eb _
       injection en with en _
       subst eb;subst en;obtain⟨p,hp⟩:∃p,ps[q]=p:=⟨_,rfl⟩;have HSMP:Hid (Qer p):=Lh (by rw[←hp];exact HSML.out _ (List.getElem_mem _));rw[hp] at p0 p1 p2 p3 p4 p5 HRB HRN HEQ3
       have HLEN:Hid (pre3.length<(Qac m h ls).length):=Lh (by
        have h1:=congrArg List.length HEQ3.out
        rw[qA,qC,qM] at h1
        omega)
       have hb1:0≤num∧num≤109951162777600000:=(by have:=HB.out.1;have:=HLEN.out;have:=HPN.out;omega);have hb2:0≤suf∧suf≤109951162777600000:=(by have:=HB.out.2;have:=HLEN.out;have:=HPN.out;omega);obtain⟨hb11,hb12⟩:=hb1;obtain⟨hb21,hb22⟩:=hb2;have HOm:Hid (OwnP wl wz.heap.size 36 (.slice (some ⟨b3,o3,none⟩) ps.length c5) ps (fun b=>wz.heap.size≤b∧¬M3 b∧b<wl.heap.size)):=Lh (HO.out.mono fun i hi hil=>⟨hi.1,hi.2,hil⟩);have HRBm:=Lh (Rep.mono (S':=fun b=>wz.heap.size≤b∧¬M3 b∧b<wl.heap.size) HRB.out (fun i hi hil=>⟨hi.1,hi.2,hil⟩));have HRNm:=Lh (Rep.mono (S':=fun b=>wz.heap.size≤b∧¬M3 b∧b<wl.heap.size) HRN.out (fun i hi hil=>⟨hi.1,hi.2,hil⟩));obtain⟨wx,hwx⟩:∃wx,wl.alloc (.cells #[.int .i64 p.num,.int .i64 p.suf,.int .i64 p.entry,.int .i64 p.ver,.slice Ab9 p.body.length cb9,.slice An9 p.notes.length cn9] 36)=wx:=⟨_,rfl⟩;have hbx:Below wl.heap.size wl wx:=by rw[←hwx];exact bR.alloc nL _
       have hxx:ABox wx wl.heap.size 36 [.int .i64 p.num,.int .i64 p.suf,.int .i64 p.entry,.int .i64 p.ver,.slice Ab9 p.body.length cb9,.slice An9 p.notes.length cn9]:=(by rw[←hwx];exact heap_alloc_new wl _);have HAX:=Lh (HAI.out.to HJ.out hbx);have HYX:=Lh (HYS.out.1.to hbx);have HOX:=Lh (HOm.out.below hbx);have HRBX:=Lh (Rep.keep HRBm.out (Kept.all hbx));have HRNX:=Lh (Rep.keep HRNm.out (Kept.all hbx));have HXX:=Lh hxx;have HRP:Hid (¬R3 wl.heap.size):=Lh (fun e=>by have:=HAI.out.mR _ e;omega)
       have HPL:Hid (Lab<wl.heap.size∧Sx<wl.heap.size∧wz.heap.size≤wl.heap.size):=Lh ⟨HAI.out.lab.lt,HYS.out.1.lt,by
        rcases Nat.lt_or_ge wl.heap.size wz.heap.size with h|h
        ·exfalso
         have h1:=(page_at hps hlq)
         obtain⟨_,_,_,_,_,h2,h3,_⟩:=h1
         have:=h2.1
         omega
        ·exact h⟩
       have HMX:=Lh HYS.out.2;have HSLT:Hid (Lab<Sx):=Lh HLS.out;have HWX:=Lh hwx;clear hp hps hbx hxx hwx HAI HYS HO HOm HRB HRN HRBm HRNm HEQ;go_upto_region 12 with(fail);rw[HWX.out];clear p0 p1 p2 p3 p4 p5;obtain⟨Px,hPx⟩:∃Px,wl.heap.size=Px:=⟨_,rfl⟩;have HPE:=Lh hPx;rw[hPx] at HXX HRP HPL HOX HRBX HRNX ⊢;clear hPx HWX;have hl0:=HAX.out.lab.cell 0 rfl;have hf0:=HAX.out.lab.fz 0;have hl1:=HAX.out.lab.cell 1 rfl;have hf1:=HAX.out.lab.fz 1;by_cases hj9:j=0
       ·have hjb:((j:Int)==0)=true:=by rw[beq_iff_eq];omega
        have HEQ4:Hid (pre3.map PV.plain++((⟨(num+1),suf,x.entry,vj,p.body,p.notes⟩:PageP)::(QaR x.entry vj (num+1) suf j (ps.drop (q+1))++(QaJ m h x.entry (j+1) numE sufE (x.vers.drop (j+1)) (x.texts.drop (j+1))++Qaq m h (num0+QaA m h x) (ls.drop (k+1)))))=Qac m h ls):=Lh (by
         have h1:=HEQ3.out
         rw[if_pos hj9,if_pos hj9] at h1
         exact h1)
        have HNS4:Hid ((num+1)=(if j=0 then numS+((q+1:Nat):Int) else numS)∧suf=(if j=0 then sufS else sufS+((q+1:Nat):Int))):=Lh (by
         have h1:=HNS.out
         rw[if_pos hj9,if_pos hj9] at h1
         rw[if_pos hj9,if_pos hj9]
         omega)
        clear hj9;go_upto_region 15 with(fail);have HA7:=Lh (HAX.out.setNum HJ.out hn (num+1));have HY7:=Lh (HYX.out.other (show Sx≠Lab by have:=HSX1.out;have:=HSLT.out;omega) 0 (.int .i64 (num+1)));have HX7:=Lh (HXX.out.other (show Px≠Lab by have:=HPL.out;omega) 0 (.int .i64 (num+1)));have HO7:=Lh (HOX.out.set Lab 0 (.int .i64 (num+1)) (fun i hi e=>by have:=hi.1;have:=HZ3.out;omega));have HRB7:=Lh (Rep.keep HRBX.out (KS.setCell (l:=Lab) 0 (.int .i64 (num+1)) (fun(e:wz.heap.size≤Lab∧_)=>by have:=e.1;have:=HZ3.out;omega)).kept);have HRN7:=Lh (Rep.keep HRNX.out (KS.setCell (l:=Lab) 0 (.int .i64 (num+1)) (fun(e:wz.heap.size≤Lab∧_)=>by have:=e.1;have:=HZ3.out;omega)).kept);clear hl0 hf0 hl1 hf1 HAX HYX HXX HOX HRBX HRNX HEQ3;generalize wx.setCell ⟨Lab,0,none⟩ (.int .i64 (num+1))=w7 at*;obtain⟨nn,hnn⟩:∃nn,(num+1)=nn:=⟨_,rfl⟩;obtain⟨sn,hsn⟩:∃sn,suf=sn:=⟨_,rfl⟩;have HNB:Hid ((0≤nn∧nn≤pre3.length+1)∧(0≤sn∧sn≤pre3.length+1)):=Lh (by have:=HB.out;omega);rw[hnn] at HA7 HEQ4 HNS4;rw[hsn] at HA7 HEQ4 HNS4;clear hnn hsn;have hszv:n₀≤w7.heap.size:=(by have:=HA7.out.old.size;omega);have HVr:Hid (Sl w7 (fun b=>b<n₀) Ag cg x.vers):=Lh (HVS.out.old HA7.out.old.kept hszv);obtain⟨bv,ov,hAg,hbv,-,-,cv⟩:=Qa8 HVr.out hjv;subst hAg;have hvc:x.vers.length≤cg:=HVr.out.1;have hvj2:x.vers[j]=vj:=(by have h:=HVJ.out;rw[qG hjv] at h;exact Option.some.inj h);rw[hvj2] at cv;clear hvj2 HVr;have hjvI:(j:Int)<(x.vers.length:Int):=by omega
        refine Qao (fun w'=>w'.cell? ⟨Lab,0,none⟩=some (.int .i64 nn)∧w'.cell? ⟨Lab,1,none⟩=some (.int .i64 sn)∧w'.cell? ⟨Sx,0,none⟩=some (.int .i64 x.entry)∧w'.cell? ⟨Sx,2,none⟩=some (.slice (some ⟨bv,ov,none⟩) x.vers.length cg)∧w'.cell? ⟨bv,ov+j,none⟩=some (.int .i64 vj)) (fun i=>decide (i<13)) (by kernel_rfl) ?_;have hbz:Below w7.heap.size w7 w7.drew:=bR.drew;have HA8:=Lh (HA7.out.to HJ.out hbz);have HY8:=Lh (HY7.out.to hbz);have HX8:=Lh (HX7.out.to hbz);have HO8:=Lh (HO7.out.below hbz);have HRB8:=Lh (Rep.keep HRB7.out (Kept.all hbz));have HRN8:=Lh (Rep.keep HRN7.out (Kept.all hbz));have cv8:w7.drew.cell? ⟨bv,ov+j,none⟩=some (.int .i64 vj):=cv;clear hbz HA7 HY7 HX7 HO7 HRB7 HRN7 cv;generalize w7.drew=W8 at*;have hS0:W8.cell? ⟨Lab,0,none⟩=some (.int .i64 nn)∧W8.cell? ⟨Lab,1,none⟩=some (.int .i64 sn)∧W8.cell? ⟨Sx,0,none⟩=some (.int .i64 x.entry)∧W8.cell? ⟨Sx,2,none⟩=some (.slice (some ⟨bv,ov,none⟩) x.vers.length cg)∧W8.cell? ⟨bv,ov+j,none⟩=some (.int .i64 vj):=
         ⟨HA8.out.lab.cell 0 rfl,HA8.out.lab.cell 1 rfl,HY8.out.cell 0 rfl,HY8.out.cell 2 rfl,cv8⟩
        have HSP:Hid (∀W,KS (fun i=>i≠Px) W8 W→W.cell? ⟨Lab,0,none⟩=some (.int .i64 nn)∧W.cell? ⟨Lab,1,none⟩=some (.int .i64 sn)∧W.cell? ⟨Sx,0,none⟩=some (.int .i64 x.entry)∧W.cell? ⟨Sx,2,none⟩=some (.slice (some ⟨bv,ov,none⟩) x.vers.length cg)∧W.cell? ⟨bv,ov+j,none⟩=some (.int .i64 vj)):=Lh (fun W hW=>by
         have e1:Lab≠Px:=(by have:=HPL.out;omega)
         have e2:Sx≠Px:=(by have:=HPL.out;omega)
         have e3:bv≠Px:=(by have:=HPL.out;have:=HZ3.out;have:=hbv;have:=hn;omega)
         exact⟨hW.kept.cell e1 hS0.1,hW.kept.cell e1 hS0.2.1,hW.kept.cell e2 hS0.2.2.1,hW.kept.cell e2 hS0.2.2.2.1,hW.kept.cell e3 hS0.2.2.2.2⟩)
        clear cv8;refine tE 0 ⟨some 54,Op.load 24 (.tmp 3),24,_,_,_⟩ ?_ rfl ?zq0 (hS0) ?zq1;(case zq0=>intro wS hSw;(have hq:=hSw.1);(have hq2:=hSw.2.1);clear hSw;go_simp;(try with_reducible rfl));(all_goals try go_frame);refine tE 1 ⟨some 55,Op.fieldAddr 45 (.tmp 5) 0,0,_,_,_⟩ ?_ rfl ?zq2 (hS0) ?zq3;(case zq2=>intro _ s;clear s;go_simp;(try with_reducible rfl));(all_goals try go_frame);refine tE 2 ⟨some 56,Op.load 3 (.tmp 55),3,_,_,_⟩ ?_ rfl ?zq4 (hS0) ?zq5;(case zq4=>intro wS hSw;(have hq:=hSw.2.2.1);clear hSw;go_simp;(try with_reducible rfl));(all_goals try go_frame);refine tE 3 ⟨some 57,Op.fieldAddr 45 (.tmp 5) 2,0,_,_,_⟩ ?_ rfl ?zq6 (hS0) ?zq7;(case zq6=>intro _ s;clear s;go_simp;(try with_reducible rfl));(all_goals try go_frame);refine tE 4 ⟨some 58,Op.load 22 (.tmp 57),22,_,_,_⟩ ?_ rfl ?zq8 (hS0) ?zq9;(case zq8=>intro wS hSw;(have hq:=hSw.2.2.2.1);clear hSw;go_simp;(try with_reducible rfl));(all_goals try go_frame);refine tE 5 ⟨some 59,Op.move (.tmp 6),3,_,_,_⟩ ?_ rfl ?zq10 (hS0) ?zq11;(case zq10=>intro _ s;clear s;go_simp;(try with_reducible rfl));(all_goals try go_frame);refine tE 6 ⟨some 60,Op.indexAddr 22 (.tmp 58) (.tmp 59),0,_,_,_⟩ ?_ rfl ?zq12 (hS0) ?zq13;(case zq12=>intro _ s;clear s;go_simp;(try with_reducible rfl));(all_goals try go_frame);refine tE 7 ⟨some 61,Op.load 3 (.tmp 60),3,_,_,_⟩ ?_ rfl ?zq14 (hS0) ?zq15;(case zq14=>intro wS hSw;(have hq:=hSw.2.2.2.2);clear hSw;go_simp;(try with_reducible rfl));(all_goals try go_frame);refine tE 8 ⟨some 62,Op.fieldAddr 36 (.tmp 11) 0,0,_,_,_⟩ ?_ rfl ?zq16 (hS0) ?zq17;(case zq16=>intro _ s;clear s;go_simp;(try with_reducible rfl));(all_goals try go_frame);refine tD 9 ⟨none,Op.store 24 (.tmp 62) (.tmp 54),0,_,_,_⟩ rfl fun K hK=>?_
        have x0:=HX8.out.cell 0 rfl;have y0:=HX8.out.fz 0;have x1:=(HX8.out.set 0 (.int .i64 nn)).cell 1 rfl;have y1:=(HX8.out.set 0 (.int .i64 nn)).fz 1;go_simp;clear x0 y0 x1 y1;refine hK _ _ (fun _=>?_) ?_
        ·exact(HSP.out _ ((KS.setCell _ _ (fun h=>h rfl)).trans (KS.setCell _ _ (fun h=>h rfl))))
        clear hK K;(try simp only[Act.put]);refine tE 10 ⟨some 63,Op.fieldAddr 36 (.tmp 11) 1,0,_,_,_⟩ ?_ rfl ?zq18 ((HSP.out _ ((KS.setCell _ _ (fun h=>h rfl)).trans (KS.setCell _ _ (fun h=>h rfl))))) ?zq19;(case zq18=>intro _ s;clear s;go_simp;(try with_reducible rfl));(all_goals try go_frame);refine tD 11 ⟨none,Op.store 3 (.tmp 63) (.tmp 56),0,_,_,_⟩ rfl fun K hK=>?_
        have x2:=((HX8.out.set 0 (.int .i64 nn)).set 1 (.int .i64 sn)).cell 2 rfl;have y2:=((HX8.out.set 0 (.int .i64 nn)).set 1 (.int .i64 sn)).fz 2;go_simp;clear x2 y2;refine hK _ _ (fun _=>?_) ?_
        ·exact(HSP.out _ (((KS.setCell _ _ (fun h=>h rfl)).trans (KS.setCell _ _ (fun h=>h rfl))).trans (KS.setCell _ _ (fun h=>h rfl))))
        clear hK K;(try simp only[Act.put]);refine tE 12 ⟨some 64,Op.fieldAddr 36 (.tmp 11) 2,0,_,_,_⟩ ?_ rfl ?zq20 ((HSP.out _ (((KS.setCell _ _ (fun h=>h rfl)).trans (KS.setCell _ _ (fun h=>h rfl))).trans (KS.setCell _ _ (fun h=>h rfl))))) ?zq21;(case zq20=>intro _ s;clear s;go_simp;(try with_reducible rfl));(all_goals try go_frame);refine tD 13 ⟨none,Op.store 3 (.tmp 64) (.tmp 61),0,_,_,_⟩ rfl fun K hK=>?_
        have x3:=(((HX8.out.set 0 (.int .i64 nn)).set 1 (.int .i64 sn)).set 2 (.int .i64 x.entry)).cell 3 rfl;have y3:=(((HX8.out.set 0 (.int .i64 nn)).set 1 (.int .i64 sn)).set 2 (.int .i64 x.entry)).fz 3;go_simp;clear x3 y3;refine hK _ _ (fun h=>absurd h (by decide)) ?_;clear hK K;(try simp only[Act.put]);refine Qaf (by kernel_rfl) ?_ _;unfold Exit.then;have hpn1:W0.heap.size≤Px:=(by have:=HPL.out;have:=HZ3.out;omega);have hpn2:Px≠Lab:=by have:=HPL.out;omega
        have HA9:=Lh ((((HA8.out.set HJ.out hn hpn1 hpn2 HRP.out 0 (.int .i64 nn)).set HJ.out hn hpn1 hpn2 HRP.out 1 (.int .i64 sn)).set HJ.out hn hpn1 hpn2 HRP.out 2 (.int .i64 x.entry)).set HJ.out hn hpn1 hpn2 HRP.out 3 (.int .i64 vj));have e2:Sx≠Px:=(by have:=HPL.out;omega);have HY9:=Lh ((((HY8.out.other e2 0 (.int .i64 nn)).other e2 1 (.int .i64 sn)).other e2 2 (.int .i64 x.entry)).other e2 3 (.int .i64 vj));have HX9:Hid (ABox ((((W8.setCell ⟨Px,0,none⟩ (.int .i64 nn)).setCell ⟨Px,1,none⟩ (.int .i64 sn)).setCell ⟨Px,2,none⟩ (.int .i64 x.entry)).setCell ⟨Px,3,none⟩ (.int .i64 vj)) Px 36 [.int .i64 nn,.int .i64 sn,.int .i64 x.entry,.int .i64 vj,.slice Ab9 p.body.length cb9,.slice An9 p.notes.length cn9]):=Lh (by have h9:=(((HX8.out.set 0 (.int .i64 nn)).set 1 (.int .i64 sn)).set 2 (.int .i64 x.entry)).set 3 (.int .i64 vj);simpa using h9);have hks:KS (fun b=>wz.heap.size≤b∧¬M3 b∧b<Px) W8 ((((W8.setCell ⟨Px,0,none⟩ (.int .i64 nn)).setCell ⟨Px,1,none⟩ (.int .i64 sn)).setCell ⟨Px,2,none⟩ (.int .i64 x.entry)).setCell ⟨Px,3,none⟩ (.int .i64 vj)):=((KS.setCell _ _ (fun h=>by have:=h.2.2;omega)).trans (KS.setCell _ _ (fun h=>by have:=h.2.2;omega))).trans (KS.setCell _ _ (fun h=>by have:=h.2.2;omega)) |>.trans (KS.setCell _ _ (fun h=>by have:=h.2.2;omega));have HO9:=Lh (HO8.out.kept hks.kept);have HPR:Hid (PV.Pr (fun b=>wz.heap.size≤b∧¬M3 b∧b<Px) ⟨nn,sn,x.entry,vj,p.body,p.notes,Ab9,cb9,An9,cn9⟩ ((((W8.setCell ⟨Px,0,none⟩ (.int .i64 nn)).setCell ⟨Px,1,none⟩ (.int .i64 sn)).setCell ⟨Px,2,none⟩ (.int .i64 x.entry)).setCell ⟨Px,3,none⟩ (.int .i64 vj))):=Lh ⟨Rep.keep HRB8.out hks.kept,Rep.keep HRN8.out hks.kept,HSMP.out⟩;clear hks hS0 HSP HA8 HY8 HX8 HO8 HRB8 HRN8;generalize ((((W8.setCell ⟨Px,0,none⟩ (.int .i64 nn)).setCell ⟨Px,1,none⟩ (.int .i64 sn)).setCell ⟨Px,2,none⟩ (.int .i64 x.entry)).setCell ⟨Px,3,none⟩ (.int .i64 vj))=W9 at*;go_upto_region 16 with(fail);have hx0:=HX9.out.cell 0 rfl;have hx1:=HX9.out.cell 1 rfl;have hx2:=HX9.out.cell 2 rfl;have hx3:=HX9.out.cell 3 rfl;have hx4:=HX9.out.cell 4 rfl;have hx5:=HX9.out.cell 5 rfl;obtain⟨fn,tmps,assign,bodyc,hy,hR⟩:=HY.out pre3 M3 R3 ⟨nn,sn,x.entry,vj,p.body,p.notes,Ab9,cb9,An9,cn9⟩ W9 _ HA9.out.j HA9.out.old.size HLEN.out HPR.out (fun i hi _=>⟨by have:=hi.1;have:=HZ3.out;omega,hi.2.1⟩);unfold PV.enc at hy;dsimp only at hy;refine(wpIn_wide (n:=n+1)).1 ?_;gi_wp2;refine hR.mono ?_;have HW9:=Lh HA9.out.lab.lt;clear hR hy hx0 hx1 hx2 hx3 hx4 hx5;rintro e W10 (⟨rfl,M',R',hJ9,hK9,hM9,hR9⟩|⟨rfl,hJx9⟩)
        ·have HA10:=Lh (HA9.out.went hJ9 hK9 hM9 hR9 (fun h=>by have:=h.1;have:=HZ3.out;omega));have HY10:Hid (ABox W10 Sx 45 [.int .i64 x.entry,.bool x.frozen,.slice (some ⟨bv,ov,none⟩) x.vers.length cg,.slice (some ⟨b2,o2,none⟩) x.texts.length cn]∧¬M' Sx):=Lh ⟨(hK9.block Sx (.inr ⟨HSX1.out,HMX.out⟩) HY9.out.lt).trans HY9.out,fun h=>(hM9 _ h).elim HMX.out (fun h=>by have:=HY9.out.lt;omega)⟩;have HO10:Hid (OwnP W10 wz.heap.size 36 (.slice (some ⟨b3,o3,none⟩) ps.length c5) ps (fun b=>wz.heap.size≤b∧¬M' b)):=Lh ((HO9.out.kept (fun i hi hil=>hK9.block i (.inr ⟨by have:=hi.1;have:=HZ3.out;omega,hi.2.1⟩) hil)).mono (fun i hi _=>⟨hi.1,fun h=>(hM9 _ h).elim hi.2.1 (fun h=>by have:=hi.2.2;have:=HX9.out.lt;omega)⟩))
         have HEQ5:Hid ((pre3++[(⟨nn,sn,x.entry,vj,p.body,p.notes,Ab9,cb9,An9,cn9⟩:PV)]).map PV.plain++(QaR x.entry vj nn sn j (ps.drop (q+1))++(QaJ m h x.entry (j+1) numE sufE (x.vers.drop (j+1)) (x.texts.drop (j+1))++Qaq m h (num0+QaA m h x) (ls.drop (k+1))))=Qac m h ls):=Lh (by
          rw[List.map_append,List.append_assoc];exact HEQ4.out)
         have HB5:Hid ((0≤nn∧nn≤(pre3++[(⟨nn,sn,x.entry,vj,p.body,p.notes,Ab9,cb9,An9,cn9⟩:PV)]).length)∧(0≤sn∧sn≤(pre3++[(⟨nn,sn,x.entry,vj,p.body,p.notes,Ab9,cb9,An9,cn9⟩:PV)]).length)):=Lh (by
          rw[qA,List.length_singleton];have:=HNB.out;omega)
         clear hJ9 hK9 hM9 hR9 HA9 HY9 HX9 HO9 HPR;gi_wp2;go_wp2_with fail;go_roundw;(case rel=>exact⟨q+1,nn,sn,_,M',R',by omega,by go_num,HA10,HY10,HO10,HEQ5,HB5,HNS4⟩);case measure=>(first|(simp[intOf];done)|(simp[intOf];omega))
        ·gi_wp2;go_wp2_with fail;refine bodyPost_ret (results_none rfl _ _ _) rfl ?_;refine⟨⟨_,rfl⟩,.inr ⟨_,⟨pre3.length+1,?_⟩,hJx9⟩⟩;rw[←HEQ4.out,List.take_append];simp[PV.plain];rw[List.take_of_length_le (by rw[qM];omega)]
       ·have hjb:((j:Int)==0)=false:=by rw[beq_eq_false_iff_ne];omega
        have HEQ4:Hid (pre3.map PV.plain++((⟨num,(suf+1),x.entry,vj,p.body,p.notes⟩:PageP)::(QaR x.entry vj num (suf+1) j (ps.drop (q+1))++(QaJ m h x.entry (j+1) numE sufE (x.vers.drop (j+1)) (x.texts.drop (j+1))++Qaq m h (num0+QaA m h x) (ls.drop (k+1)))))=Qac m h ls):=Lh (by
         have h1:=HEQ3.out
         rw[if_neg hj9,if_neg hj9] at h1
         exact h1)
        have HNS4:Hid (num=(if j=0 then numS+((q+1:Nat):Int) else numS)∧(suf+1)=(if j=0 then sufS else sufS+((q+1:Nat):Int))):=Lh (by
         have h1:=HNS.out
         rw[if_neg hj9,if_neg hj9] at h1
         rw[if_neg hj9,if_neg hj9]
         omega)
        clear hj9;go_upto_region 15 with(fail);have HA7:=Lh (HAX.out.setSuf HJ.out hn (suf+1));have HY7:=Lh (HYX.out.other (show Sx≠Lab by have:=HSX1.out;have:=HSLT.out;omega) 1 (.int .i64 (suf+1)));have HX7:=Lh (HXX.out.other (show Px≠Lab by have:=HPL.out;omega) 1 (.int .i64 (suf+1)));have HO7:=Lh (HOX.out.set Lab 1 (.int .i64 (suf+1)) (fun i hi e=>by have:=hi.1;have:=HZ3.out;omega));have HRB7:=Lh (Rep.keep HRBX.out (KS.setCell (l:=Lab) 1 (.int .i64 (suf+1)) (fun(e:wz.heap.size≤Lab∧_)=>by have:=e.1;have:=HZ3.out;omega)).kept);have HRN7:=Lh (Rep.keep HRNX.out (KS.setCell (l:=Lab) 1 (.int .i64 (suf+1)) (fun(e:wz.heap.size≤Lab∧_)=>by have:=e.1;have:=HZ3.out;omega)).kept);clear hl0 hf0 hl1 hf1 HAX HYX HXX HOX HRBX HRNX HEQ3;generalize wx.setCell ⟨Lab,1,none⟩ (.int .i64 (suf+1))=w7 at*;obtain⟨nn,hnn⟩:∃nn,num=nn:=⟨_,rfl⟩;obtain⟨sn,hsn⟩:∃sn,(suf+1)=sn:=⟨_,rfl⟩;have HNB:Hid ((0≤nn∧nn≤pre3.length+1)∧(0≤sn∧sn≤pre3.length+1)):=Lh (by have:=HB.out;omega);rw[hnn] at HA7 HEQ4 HNS4;rw[hsn] at HA7 HEQ4 HNS4;clear hnn hsn;have hszv:n₀≤w7.heap.size:=(by have:=HA7.out.old.size;omega);have HVr:Hid (Sl w7 (fun b=>b<n₀) Ag cg x.vers):=Lh (HVS.out.old HA7.out.old.kept hszv);obtain⟨bv,ov,hAg,hbv,-,-,cv⟩:=Qa8 HVr.out hjv;subst hAg;have hvc:x.vers.length≤cg:=HVr.out.1;have hvj2:x.vers[j]=vj:=(by have h:=HVJ.out;rw[qG hjv] at h;exact Option.some.inj h);rw[hvj2] at cv;clear hvj2 HVr;have hjvI:(j:Int)<(x.vers.length:Int):=by omega
        refine Qao (fun w'=>w'.cell? ⟨Lab,0,none⟩=some (.int .i64 nn)∧w'.cell? ⟨Lab,1,none⟩=some (.int .i64 sn)∧w'.cell? ⟨Sx,0,none⟩=some (.int .i64 x.entry)∧w'.cell? ⟨Sx,2,none⟩=some (.slice (some ⟨bv,ov,none⟩) x.vers.length cg)∧w'.cell? ⟨bv,ov+j,none⟩=some (.int .i64 vj)) (fun i=>decide (i<13)) (by kernel_rfl) ?_;have hbz:Below w7.heap.size w7 w7.drew:=bR.drew;have HA8:=Lh (HA7.out.to HJ.out hbz);have HY8:=Lh (HY7.out.to hbz);have HX8:=Lh (HX7.out.to hbz);have HO8:=Lh (HO7.out.below hbz);have HRB8:=Lh (Rep.keep HRB7.out (Kept.all hbz));have HRN8:=Lh (Rep.keep HRN7.out (Kept.all hbz));have cv8:w7.drew.cell? ⟨bv,ov+j,none⟩=some (.int .i64 vj):=cv;clear hbz HA7 HY7 HX7 HO7 HRB7 HRN7 cv;generalize w7.drew=W8 at*;have hS0:W8.cell? ⟨Lab,0,none⟩=some (.int .i64 nn)∧W8.cell? ⟨Lab,1,none⟩=some (.int .i64 sn)∧W8.cell? ⟨Sx,0,none⟩=some (.int .i64 x.entry)∧W8.cell? ⟨Sx,2,none⟩=some (.slice (some ⟨bv,ov,none⟩) x.vers.length cg)∧W8.cell? ⟨bv,ov+j,none⟩=some (.int .i64 vj):=
         ⟨HA8.out.lab.cell 0 rfl,HA8.out.lab.cell 1 rfl,HY8.out.cell 0 rfl,HY8.out.cell 2 rfl,cv8⟩
        have HSP:Hid (∀W,KS (fun i=>i≠Px) W8 W→W.cell? ⟨Lab,0,none⟩=some (.int .i64 nn)∧W.cell? ⟨Lab,1,none⟩=some (.int .i64 sn)∧W.cell? ⟨Sx,0,none⟩=some (.int .i64 x.entry)∧W.cell? ⟨Sx,2,none⟩=some (.slice (some ⟨bv,ov,none⟩) x.vers.length cg)∧W.cell? ⟨bv,ov+j,none⟩=some (.int .i64 vj)):=Lh (fun W hW=>by
         have e1:Lab≠Px:=(by have:=HPL.out;omega)
         have e2:Sx≠Px:=(by have:=HPL.out;omega)
         have e3:bv≠Px:=(by have:=HPL.out;have:=HZ3.out;have:=hbv;have:=hn;omega)
         exact⟨hW.kept.cell e1 hS0.1,hW.kept.cell e1 hS0.2.1,hW.kept.cell e2 hS0.2.2.1,hW.kept.cell e2 hS0.2.2.2.1,hW.kept.cell e3 hS0.2.2.2.2⟩)
        clear cv8;refine tE 0 ⟨some 54,Op.load 24 (.tmp 3),24,_,_,_⟩ ?_ rfl ?zq22 (hS0) ?zq23;(case zq22=>intro wS hSw;(have hq:=hSw.1);(have hq2:=hSw.2.1);clear hSw;go_simp;(try with_reducible rfl));(all_goals try go_frame);refine tE 1 ⟨some 55,Op.fieldAddr 45 (.tmp 5) 0,0,_,_,_⟩ ?_ rfl ?zq24 (hS0) ?zq25;(case zq24=>intro _ s;clear s;go_simp;(try with_reducible rfl));(all_goals try go_frame);refine tE 2 ⟨some 56,Op.load 3 (.tmp 55),3,_,_,_⟩ ?_ rfl ?zq26 (hS0) ?zq27;(case zq26=>intro wS hSw;(have hq:=hSw.2.2.1);clear hSw;go_simp;(try with_reducible rfl));(all_goals try go_frame);refine tE 3 ⟨some 57,Op.fieldAddr 45 (.tmp 5) 2,0,_,_,_⟩ ?_ rfl ?zq28 (hS0) ?zq29;(case zq28=>intro _ s;clear s;go_simp;(try with_reducible rfl));(all_goals try go_frame);refine tE 4 ⟨some 58,Op.load 22 (.tmp 57),22,_,_,_⟩ ?_ rfl ?zq30 (hS0) ?zq31;(case zq30=>intro wS hSw;(have hq:=hSw.2.2.2.1);clear hSw;go_simp;(try with_reducible rfl));(all_goals try go_frame);refine tE 5 ⟨some 59,Op.move (.tmp 6),3,_,_,_⟩ ?_ rfl ?zq32 (hS0) ?zq33;(case zq32=>intro _ s;clear s;go_simp;(try with_reducible rfl));(all_goals try go_frame);refine tE 6 ⟨some 60,Op.indexAddr 22 (.tmp 58) (.tmp 59),0,_,_,_⟩ ?_ rfl ?zq34 (hS0) ?zq35;(case zq34=>intro _ s;clear s;go_simp;(try with_reducible rfl));(all_goals try go_frame);refine tE 7 ⟨some 61,Op.load 3 (.tmp 60),3,_,_,_⟩ ?_ rfl ?zq36 (hS0) ?zq37;(case zq36=>intro wS hSw;(have hq:=hSw.2.2.2.2);clear hSw;go_simp;(try with_reducible rfl));(all_goals try go_frame);refine tE 8 ⟨some 62,Op.fieldAddr 36 (.tmp 11) 0,0,_,_,_⟩ ?_ rfl ?zq38 (hS0) ?zq39;(case zq38=>intro _ s;clear s;go_simp;(try with_reducible rfl));(all_goals try go_frame);refine tD 9 ⟨none,Op.store 24 (.tmp 62) (.tmp 54),0,_,_,_⟩ rfl fun K hK=>?_
        have x0:=HX8.out.cell 0 rfl;have y0:=HX8.out.fz 0;have x1:=(HX8.out.set 0 (.int .i64 nn)).cell 1 rfl;have y1:=(HX8.out.set 0 (.int .i64 nn)).fz 1;go_simp;clear x0 y0 x1 y1;refine hK _ _ (fun _=>?_) ?_
        ·exact(HSP.out _ ((KS.setCell _ _ (fun h=>h rfl)).trans (KS.setCell _ _ (fun h=>h rfl))))
        clear hK K;(try simp only[Act.put]);refine tE 10 ⟨some 63,Op.fieldAddr 36 (.tmp 11) 1,0,_,_,_⟩ ?_ rfl ?zq40 ((HSP.out _ ((KS.setCell _ _ (fun h=>h rfl)).trans (KS.setCell _ _ (fun h=>h rfl))))) ?zq41;(case zq40=>intro _ s;clear s;go_simp;(try with_reducible rfl));(all_goals try go_frame);refine tD 11 ⟨none,Op.store 3 (.tmp 63) (.tmp 56),0,_,_,_⟩ rfl fun K hK=>?_
        have x2:=((HX8.out.set 0 (.int .i64 nn)).set 1 (.int .i64 sn)).cell 2 rfl;have y2:=((HX8.out.set 0 (.int .i64 nn)).set 1 (.int .i64 sn)).fz 2;go_simp;clear x2 y2;refine hK _ _ (fun _=>?_) ?_
        ·exact(HSP.out _ (((KS.setCell _ _ (fun h=>h rfl)).trans (KS.setCell _ _ (fun h=>h rfl))).trans (KS.setCell _ _ (fun h=>h rfl))))
        clear hK K;(try simp only[Act.put]);refine tE 12 ⟨some 64,Op.fieldAddr 36 (.tmp 11) 2,0,_,_,_⟩ ?_ rfl ?zq42 ((HSP.out _ (((KS.setCell _ _ (fun h=>h rfl)).trans (KS.setCell _ _ (fun h=>h rfl))).trans (KS.setCell _ _ (fun h=>h rfl))))) ?zq43;(case zq42=>intro _ s;clear s;go_simp;(try with_reducible rfl));(all_goals try go_frame);refine tD 13 ⟨none,Op.store 3 (.tmp 64) (.tmp 61),0,_,_,_⟩ rfl fun K hK=>?_
        have x3:=(((HX8.out.set 0 (.int .i64 nn)).set 1 (.int .i64 sn)).set 2 (.int .i64 x.entry)).cell 3 rfl;have y3:=(((HX8.out.set 0 (.int .i64 nn)).set 1 (.int .i64 sn)).set 2 (.int .i64 x.entry)).fz 3;go_simp;clear x3 y3;refine hK _ _ (fun h=>absurd h (by decide)) ?_;clear hK K;(try simp only[Act.put]);refine Qaf (by kernel_rfl) ?_ _;unfold Exit.then;have hpn1:W0.heap.size≤Px:=(by have:=HPL.out;have:=HZ3.out;omega);have hpn2:Px≠Lab:=by have:=HPL.out;omega
        have HA9:=Lh ((((HA8.out.set HJ.out hn hpn1 hpn2 HRP.out 0 (.int .i64 nn)).set HJ.out hn hpn1 hpn2 HRP.out 1 (.int .i64 sn)).set HJ.out hn hpn1 hpn2 HRP.out 2 (.int .i64 x.entry)).set HJ.out hn hpn1 hpn2 HRP.out 3 (.int .i64 vj));have e2:Sx≠Px:=(by have:=HPL.out;omega);have HY9:=Lh ((((HY8.out.other e2 0 (.int .i64 nn)).other e2 1 (.int .i64 sn)).other e2 2 (.int .i64 x.entry)).other e2 3 (.int .i64 vj));have HX9:Hid (ABox ((((W8.setCell ⟨Px,0,none⟩ (.int .i64 nn)).setCell ⟨Px,1,none⟩ (.int .i64 sn)).setCell ⟨Px,2,none⟩ (.int .i64 x.entry)).setCell ⟨Px,3,none⟩ (.int .i64 vj)) Px 36 [.int .i64 nn,.int .i64 sn,.int .i64 x.entry,.int .i64 vj,.slice Ab9 p.body.length cb9,.slice An9 p.notes.length cn9]):=Lh (by have h9:=(((HX8.out.set 0 (.int .i64 nn)).set 1 (.int .i64 sn)).set 2 (.int .i64 x.entry)).set 3 (.int .i64 vj);simpa using h9);have hks:KS (fun b=>wz.heap.size≤b∧¬M3 b∧b<Px) W8 ((((W8.setCell ⟨Px,0,none⟩ (.int .i64 nn)).setCell ⟨Px,1,none⟩ (.int .i64 sn)).setCell ⟨Px,2,none⟩ (.int .i64 x.entry)).setCell ⟨Px,3,none⟩ (.int .i64 vj)):=((KS.setCell _ _ (fun h=>by have:=h.2.2;omega)).trans (KS.setCell _ _ (fun h=>by have:=h.2.2;omega))).trans (KS.setCell _ _ (fun h=>by have:=h.2.2;omega)) |>.trans (KS.setCell _ _ (fun h=>by have:=h.2.2;omega));have HO9:=Lh (HO8.out.kept hks.kept);have HPR:Hid (PV.Pr (fun b=>wz.heap.size≤b∧¬M3 b∧b<Px) ⟨nn,sn,x.entry,vj,p.body,p.notes,Ab9,cb9,An9,cn9⟩ ((((W8.setCell ⟨Px,0,none⟩ (.int .i64 nn)).setCell ⟨Px,1,none⟩ (.int .i64 sn)).setCell ⟨Px,2,none⟩ (.int .i64 x.entry)).setCell ⟨Px,3,none⟩ (.int .i64 vj))):=Lh ⟨Rep.keep HRB8.out hks.kept,Rep.keep HRN8.out hks.kept,HSMP.out⟩;clear hks hS0 HSP HA8 HY8 HX8 HO8 HRB8 HRN8;generalize ((((W8.setCell ⟨Px,0,none⟩ (.int .i64 nn)).setCell ⟨Px,1,none⟩ (.int .i64 sn)).setCell ⟨Px,2,none⟩ (.int .i64 x.entry)).setCell ⟨Px,3,none⟩ (.int .i64 vj))=W9 at*;go_upto_region 16 with(fail);have hx0:=HX9.out.cell 0 rfl;have hx1:=HX9.out.cell 1 rfl;have hx2:=HX9.out.cell 2 rfl;have hx3:=HX9.out.cell 3 rfl;have hx4:=HX9.out.cell 4 rfl;have hx5:=HX9.out.cell 5 rfl;obtain⟨fn,tmps,assign,bodyc,hy,hR⟩:=HY.out pre3 M3 R3 ⟨nn,sn,x.entry,vj,p.body,p.notes,Ab9,cb9,An9,cn9⟩ W9 _ HA9.out.j HA9.out.old.size HLEN.out HPR.out (fun i hi _=>⟨by have:=hi.1;have:=HZ3.out;omega,hi.2.1⟩);unfold PV.enc at hy;dsimp only at hy;refine(wpIn_wide (n:=n+1)).1 ?_;gi_wp2;refine hR.mono ?_;have HW9:=Lh HA9.out.lab.lt;clear hR hy hx0 hx1 hx2 hx3 hx4 hx5;rintro e W10 (⟨rfl,M',R',hJ9,hK9,hM9,hR9⟩|⟨rfl,hJx9⟩)
        ·have HA10:=Lh (HA9.out.went hJ9 hK9 hM9 hR9 (fun h=>by have:=h.1;have:=HZ3.out;omega));have HY10:Hid (ABox W10 Sx 45 [.int .i64 x.entry,.bool x.frozen,.slice (some ⟨bv,ov,none⟩) x.vers.length cg,.slice (some ⟨b2,o2,none⟩) x.texts.length cn]∧¬M' Sx):=Lh ⟨(hK9.block Sx (.inr ⟨HSX1.out,HMX.out⟩) HY9.out.lt).trans HY9.out,fun h=>(hM9 _ h).elim HMX.out (fun h=>by have:=HY9.out.lt;omega)⟩;have HO10:Hid (OwnP W10 wz.heap.size 36 (.slice (some ⟨b3,o3,none⟩) ps.length c5) ps (fun b=>wz.heap.size≤b∧¬M' b)):=Lh ((HO9.out.kept (fun i hi hil=>hK9.block i (.inr ⟨by have:=hi.1;have:=HZ3.out;omega,hi.2.1⟩) hil)).mono (fun i hi _=>⟨hi.1,fun h=>(hM9 _ h).elim hi.2.1 (fun h=>by have:=hi.2.2;have:=HX9.out.lt;omega)⟩))
         have HEQ5:Hid ((pre3++[(⟨nn,sn,x.entry,vj,p.body,p.notes,Ab9,cb9,An9,cn9⟩:PV)]).map PV.plain++(QaR x.entry vj nn sn j (ps.drop (q+1))++(QaJ m h x.entry (j+1) numE sufE (x.vers.drop (j+1)) (x.texts.drop (j+1))++Qaq m h (num0+QaA m h x) (ls.drop (k+1))))=Qac m h ls):=Lh (by
          rw[List.map_append,List.append_assoc];exact HEQ4.out)
         have HB5:Hid ((0≤nn∧nn≤(pre3++[(⟨nn,sn,x.entry,vj,p.body,p.notes,Ab9,cb9,An9,cn9⟩:PV)]).length)∧(0≤sn∧sn≤(pre3++[(⟨nn,sn,x.entry,vj,p.body,p.notes,Ab9,cb9,An9,cn9⟩:PV)]).length)):=Lh (by
          rw[qA,List.length_singleton];have:=HNB.out;omega)
         clear hJ9 hK9 hM9 hR9 HA9 HY9 HX9 HO9 HPR;gi_wp2;go_wp2_with fail;go_roundw;(case rel=>exact⟨q+1,nn,sn,_,M',R',by omega,by go_num,HA10,HY10,HO10,HEQ5,HB5,HNS4⟩);case measure=>(first|(simp[intOf];done)|(simp[intOf];omega))
        ·gi_wp2;go_wp2_with fail;refine bodyPost_ret (results_none rfl _ _ _) rfl ?_;refine⟨⟨_,rfl⟩,.inr ⟨_,⟨pre3.length+1,?_⟩,hJx9⟩⟩;rw[←HEQ4.out,List.take_append];simp[PV.plain];rw[List.take_of_length_le (by rw[qM];omega)]
      ·have hqe:q=ps.length:=by omega
       have HEQ4:Hid (pre3.map PV.plain++(QaJ m h x.entry (j+1) num suf (x.vers.drop (j+1)) (x.texts.drop (j+1))++Qaq m h (num0+QaA m h x) (ls.drop (k+1)))=Qac m h ls):=Lh (by
        have h1:=HEQ.out
        have h2:=HNS.out
        rw[hqe,List.drop_length,QaR,List.nil_append] at h1
        rw[hqe,HNE.out,HSE.out] at h2
        rw[h2.1,h2.2]
        exact h1)
       have HNM4:Hid ((j+1=0→num=num0)∧(0<j+1→num=num0+QaA m h x)):=Lh ⟨fun h=>absurd h (by omega),fun _=>by
        have h2:=HNS.out.1
        rw[hqe] at h2
        by_cases hj0:j=0
        ·rw[if_pos hj0] at h2
         rw[h2,HNM.out.1 hj0,HPLB.out hj0]
        ·rw[if_neg hj0] at h2
         rw[h2];exact HNM.out.2 (by omega)⟩
       clear hqe;go_wp2_with fail;go_roundw;(case rel=>exact⟨j+1,num,suf,pre3,M3,R3,by omega,by go_num,HAI,HYS,HEQ4,HB,HNM4⟩);case measure=>(first|(simp[intOf];done)|(simp[intOf];omega))
    ·have HEQ3:Hid (pre2.map PV.plain++Qaq m h numS (ls.drop (k+1))=Qac m h ls):=Lh (by
      have h1:=HEQ.out
      rw[List.drop_of_length_le (show x.texts.length≤j by omega),QaJ,List.nil_append] at h1
      have h2:numS=num0+QaA m h x:=by
       by_cases hj0:j=0
       ·have h3:x.texts=[]:=List.eq_nil_of_length_eq_zero (by omega)
        rw[HNM.out.1 hj0];unfold QaA;rw[h3];simp
       ·exact HNM.out.2 (by omega)
      rw[h2];exact h1)
     go_wp2_with fail;go_roundw;(case rel=>exact⟨k+1,numS,sufS,pre2,M2,R2,by omega,by go_num,HAI,HEQ3,Lh HB.out.1⟩);case measure=>(first|(simp[intOf];done)|(simp[intOf];omega))
  ·have HD:Hid (pre.map PV.plain=Qac m h ls):=Lh (by
    have:=HEQ.out
    rw[List.drop_of_length_le (by omega),Qaq,List.append_nil] at this
    exact this)
   go_wp2_with fail;go_end0;exact⟨⟨_,rfl⟩,.inl ⟨pre,HD.out,M,R,HAI.out.j⟩⟩
end Go.Proofs.YtakaielemicpkaaGreatDoor
namespace Go.Proofs.YtakaielemicpkaaGreatDoor
open Go.RowKit Go.Shelf
attribute [local go_sem] Oper.semAt_some
set_option maxRecDepth 100000 in
theorem ball_any (m h:Int)(v:Value)(w:World):Calls Tryz.prog 34 #[.agg #[.int .i64 m,.int .i64 h,v]] w fun e w'=>e=.returned (.func (.func 65) #[] #[.pointer (some ⟨w.heap.size,0,none⟩)])∧w'=w.alloc (.cells #[.int .i64 m,.int .i64 h,v] 27):=by
 go_enter Tryz.func34,Tryz.ntmps34;go_wp2_with fail;go_ret;exact⟨rfl,rfl⟩
structure BookOk (w:World)(m h:Int)(A:Option Addr)(c:Nat)(l:List SectP):Prop where
 t:Laid w
 s:Sl w (fun b=>b<w.heap.size) A c l
 sh:QaO l
 wf:WfS l
 hI:I64 h
 pn:(Qac m h l).length≤1000000000
theorem BookOk.to {w w':World}{m h:Int}{A:Option Addr}{c:Nat}{l:List SectP}(H:BookOk w m h A c l)(hb:Below w.heap.size w w'):BookOk w' m h A c l:=⟨H.t.to hb,H.s.to hb,H.sh,H.wf,H.hI,H.pn⟩
theorem tab_lt {w:World}(h:Laid w):0<w.heap.size:=World.block_lt_of_cell? w ⟨_,0,none⟩ (h.cell 0 (by decide))
theorem all_seq (n:Nat)(_hn1:1≤n){m h:Int}{A:Option Addr}{c:Nat}{l:List SectP}{w0:World}(H:BookOk w0 m h A c l){w:World}(hw:w=w0.alloc (.cells #[.int .i64 m,.int .i64 h,.slice A l.length c] 27)):
 SeqIn Fence.wide n Tryz.prog 65 #[.pointer (some ⟨w0.heap.size,0,none⟩)] PV.enc PV.Pr w.heap.size (fun xs=>xs.map PV.plain=Qac m h l) (fun pre=>∃k,pre.map PV.plain=(Qac m h l).take k) (Qac m h l).length w:=by
 intro lp J Jx W hW hJ hY h0;have hba:Below w0.heap.size w0 w:=by rw[hw];exact bR.alloc nL _
 have hsz:w.heap.size=w0.heap.size+1:=by rw[hw];simp
 have hbk:ABox w w0.heap.size 27 [.int .i64 m,.int .i64 h,.slice A l.length c]:=by rw[hw];exact heap_alloc_new w0 _
 have hbW:Below w0.heap.size w0 W:=hba.trans (hW.mono hba.size);refine callsIn_wide.2 (all1_any (n-1) lp w0.heap.size w.heap.size A c l m h J Jx W (H.t.to hbW) (by have:=tab_lt H.t;omega) hW.size (by omega) (hbk.to hW) ((H.s.keep (Kept.all hbW) hbW.size).mono (fun i hi _=>by have:i<w0.heap.size:=hi;omega)) H.sh H.wf H.hI hJ (fun pre M R x W1 PM hj hs hl hp hm=>?_) h0);exact hY pre M R x W1 PM hj hs hl hp hm
theorem Qc6 {F:Fence}{nF:Nat}{P:Program}{ops:Array Oper}{rest:List Oper}{o:Oper}{a:Act}{Q:Exit→Act→World→Prop}{w:World}(hgd:o.guard=none)(s x:Operand)(t:TypeId) (ho:o.op=.call {callee:=.builtin .append,args:=#[s,x],argTypes:=#[t,t]}) (v u:Value) (hs:a.eval s=v) (hx:a.eval x=u) (v':Value) (w':World) (hrun:(Builtin.append_ #[t,t] o.type #[v,u]).run P w=.ok v' w') (h:wpListIn F nF P ops Q rest (a.put o.dst v') w'):wpListIn F nF P ops Q (o::rest) a w:=by
 refine wpListIn_plain hgd fun K hK=>?_
 unfold Oper.wpIn;refine⟨by simp[Oper.about,ho,resolve,Target.leads,Sem.run_pure],?_⟩;rw[Oper.semAt_plain F _ _ (by rw[ho];intro c hc';cases hc')];simp[execOp,ho,resolve,invoke,builtin,hs,hx,hrun,Result.andThen];exact hK _ _ h
structure CI (w:World)(Ob base:Nat)(pre:List PV)(M R:Nat→Prop)(W:World)(v:Value):Prop where
 bx:ABox W Ob 29 [v]
 m1:∀g,v.ownBlock=some g→M g
 m2:∀i,M i→v.ownBlock=some i
 own:OwnP W base 36 v (pre.map PV.plain) R
 lt:∀i,R i→i<W.heap.size
 ge:∀i,R i→base+4≤i
 bl:Below base w W
section
variable {w:World} {Ob base:Nat} {pre:List PV} {M R:Nat→Prop} {W W':World} {v:Value}
theorem CI.ks (h:CI w Ob base pre M R W v){n0:Nat}(hb:base≤n0)(hO:Ob<n0)(hw:base≤w.heap.size)(hk:KS (fun i=>i<n0∨R i) W W'):CI w Ob base pre M R W' v:=
 ⟨(hk.block Ob (.inl hO) h.bx.lt).trans h.bx,h.m1,h.m2,h.own.kept (hk.kept.mono fun i hi=>.inr hi),fun i hi=>Nat.lt_of_lt_of_le (h.lt i hi) hk.size,h.ge,h.bl.trans (hk.below (fun i hi=>.inl (by omega)) (Nat.le_trans hw h.bl.size))⟩
end
set_option maxRecDepth 100000 in
theorem appendSeq_any {m h:Int}{A:Option Addr}{c:Nat}{l:List SectP}{w0:World}(H:BookOk w0 m h A c l):
 Calls Tryz.prog 64 #[.slice none 0 0,.func (.func 65) #[] #[.pointer (some ⟨w0.heap.size,0,none⟩)]] (w0.alloc (.cells #[.int .i64 m,.int .i64 h,.slice A l.length c] 27)) fun e W'=>∃v R,e=.returned v∧OwnP W' w0.heap.size 36 v (Qac m h l) R∧(∀i,R i→w0.heap.size≤i)∧Below w0.heap.size w0 W':=by
 refine(callsIn_wide (n:=3)).1 ?_;refine callsIn_of_wp_marks Tryz.func64 rfl trivial ?_ rfl;simp only[Tryz.ntmps64,List.size_toArray,qC,List.length_nil,Nat.reduceAdd,Nat.reduceSub,Array.replicate_succ,Array.replicate_zero,List.push_toArray,List.append_toArray,List.nil_append,List.cons_append];gi_wp2;obtain⟨wa,hwa⟩:∃wa,w0.alloc (.cells #[.int .i64 m,.int .i64 h,.slice A l.length c] 27)=wa:=⟨_,rfl⟩;have hba:Below w0.heap.size w0 wa:=by rw[←hwa];exact bR.alloc nL _
 have hza:wa.heap.size=w0.heap.size+1:=by rw[←hwa];simp
 have hseq:=all_seq (3-1) (by omega) H hwa.symm;rw[hwa];clear hwa;obtain⟨wb,hwb⟩:∃wb,wa.alloc (.cells #[.slice none 0 0] 29)=wb:=⟨_,rfl⟩;have hbb:Below wa.heap.size wa wb:=by rw[←hwb];exact bR.alloc nL _
 have hzb:wb.heap.size=w0.heap.size+2:=by rw[←hwb];simp;omega
 have hox:ABox wb (w0.heap.size+1) 29 [.slice none 0 0]:=by rw[←hwb,←hza];exact heap_alloc_new wa _
 rw[hwb];clear hwb
 refine Qbw rfl (by omega) (gf:=65) (lb:=#[.pointer (some ⟨w0.heap.size,0,none⟩)]) rfl trivial (enters_of Tryz.func65 (by kernel_rfl) rfl) hseq hbb (by omega) (fun _=>rfl) PV.pr_keep PV.pr_mono (fun pre M R W=>∃v,CI w0 (w0.heap.size+1) w0.heap.size pre M R W v) (fun _ _ _=>False) (fun pre M R X Y ⟨v,hc⟩ hk=>⟨v,hc.ks (n0:=wb.heap.size) (by omega) (by omega) nL hk⟩) (fun c s X Y row hs _ _=>hs) ⟨_,hox,by simp[Value.ownBlock],fun _ h=>h.elim,OwnP.nil _ _ _ _,fun _ h=>h.elim,fun _ h=>h.elim,hba.trans (hbb.mono hba.size)⟩ (fun k x a' W=>∃Bx,k≤Bx∧ABox W Bx 36 [.int .i64 x.num,.int .i64 x.suf,.int .i64 x.entry,.int .i64 x.ver,(.slice x.Aa x.body.length x.ca),(.slice x.Ab x.notes.length x.cb)]∧a'={tmps:=#[.slice none 0 0,.func (.func 65) #[] #[.pointer (some ⟨w0.heap.size,0,none⟩)],.pointer (some ⟨w0.heap.size+1,0,none⟩),undef,.slice none 0 0,.pointer (some ⟨Bx,0,none⟩),.func (.func 65) #[] #[.pointer (some ⟨w0.heap.size,0,none⟩)],.agg #[.int .i64 x.num,.int .i64 x.suf,.int .i64 x.entry,.int .i64 x.ver,(.slice x.Aa x.body.length x.ca),(.slice x.Ab x.notes.length x.cb)],undef,undef,undef,undef,undef],defers:=[]}) (fun k x a' s X Y row ⟨Bx,h1,h2,h3⟩ hg hr=>⟨Bx,h1,(hg.block Bx h2.lt (fun e=>by obtain⟨_,o,ho,hc⟩:=hr Bx e.symm;rw[show X.heap[Bx]? =_ from h2] at ho;cases ho;cases hc)).trans h2,h3⟩) ?assign ?body ?done ?stop
 case assign=>
  intro lp x W K hK;obtain⟨n1,s1,e1,v1,bo,no,Aa,ca,Ab,cb⟩:=x;unfold PV.enc;gi_wp2;exact hK _ _ (bR.alloc nL _) ⟨W.heap.size,Nat.le_refl _,heap_alloc_new W _,rfl⟩
 case body=>
  rintro lp pre M R PM x a' W Wp ⟨v0,hc0⟩ hWp ⟨v,hc⟩ hsz hM hR ⟨Bx,hBx,bX,rfl⟩ hlen hpr hpm;obtain⟨n1,s1,e1,v1,bo,no,Aa,ca,Ab,cb⟩:=x;dsimp only at bX hpr ⊢;have hMlt:∀i,M i→i<Wp.heap.size:=fun i hi=>(hc0.own.lt i (hc0.m2 i hi)).2
  obtain⟨W1,hW1⟩:∃W1,W.alloc (.cells #[.int .i64 n1,.int .i64 s1,.int .i64 e1,.int .i64 v1,.slice Aa bo.length ca,.slice Ab no.length cb] 36)=W1:=⟨_,rfl⟩;have hb1:Below W.heap.size W W1:=(by rw[←hW1];exact bR.alloc nL _);have hz1:W1.heap.size=W.heap.size+1:=by rw[←hW1];simp
  have hB1:W1.heap[W.heap.size]? =some (.cells #[.int .i64 n1,.int .i64 s1,.int .i64 e1,.int .i64 v1,.slice Aa bo.length ca,.slice Ab no.length cb] 36 (0,0)):=(by rw[←hW1];exact heap_alloc_new W _);obtain⟨R2,hR2⟩:∃R2:Nat→Prop,R2=fun i=>R i∨PM i∨i=W.heap.size+1:=⟨_,rfl⟩
  have HO:OwnP W1 w0.heap.size 36 v (pre.map PV.plain) R2:=(hc.own.mono (fun i hi _=>by rw[hR2];exact .inl hi)).below hb1;have hpr1:=PV.pr_keep _ _ _ _ hpr (KS.of_below hb1 _)
  have hsl:Sl W1 (fun b=>b=W.heap.size∨PM b) (some ⟨W.heap.size,0,none⟩) [(⟨⟨n1,s1,e1,v1,bo,no⟩⟩:Av PageP R2)].length [(⟨⟨n1,s1,e1,v1,bo,no⟩⟩:Av PageP R2)]:=Sl.block hB1 (.inl rfl) (by simp[maxLen]) (fun i hi=>by
   obtain rfl:i=0:=by simpa using hi
   exact⟨_,_,rfl,Rep.mono hpr1.1 (fun i hi _=>⟨.inr hi,by rw[hR2];exact .inr (.inl hi)⟩),Rep.mono hpr1.2.1 (fun i hi _=>⟨.inr hi,by rw[hR2];exact .inr (.inl hi)⟩)⟩)
  have hpn:pre.length≤1000000000:=Nat.le_trans (Nat.le_of_lt hlen) H.pn
  obtain⟨v',w',hrun,hown,hgr,hat⟩:=run_cat (P:=Tryz.prog) W1 w0.heap.size 29 29 36 (.agg #[.int .i64 0,.int .i64 0,.int .i64 0,.int .i64 0,.slice none 0 0,.slice none 0 0]) 80 Tryz.underlying29 Qcx rfl (show 0<6 by decide) v ((pre.map PV.plain).map Av.mk) HO.own
   (some ⟨W.heap.size,0,none⟩) 1 1 [(⟨⟨n1,s1,e1,v1,bo,no⟩⟩:Av PageP R2)] rfl (fun b=>b=W.heap.size∨PM b) hsl (fun i hi _ e=>by
    have:=hMlt i (hc.m1 i e.symm)
    rcases hi with h|h
    ·omega
    ·exact(hpm i h).2.1 (hc.m1 i e.symm)) (by rw[qM,qM];omega) (by rw[qM,qM];omega) (by have:=hc.bl.size;omega)
  obtain⟨A5,c5,rfl,-,-⟩:=hown.form;have hOM:some (w0.heap.size+1)≠v.ownBlock:=fun e=>by have:=hM _ (hc.m1 _ e.symm);omega
  have hbx1:ABox W1 (w0.heap.size+1) 29 [v]:=hc.bx.to hb1;have hbx2:ABox w' (w0.heap.size+1) 29 [v]:=(hgr.block _ hbx1.lt hOM).trans hbx1;have hv:=hc.bx.cell 0 rfl;have hq:=hbx2.cell 0 rfl;have hf:=hbx2.fz 0;have x0:=bX.cell 0 rfl;have x1:=bX.cell 1 rfl;have x2:=bX.cell 2 rfl;have x3:=bX.cell 3 rfl;have x4:=bX.cell 4 rfl;have x5:=bX.cell 5 rfl;rw[←hW1] at hrun;have HW1:=Lh hW1;have HR2:=Lh hR2;clear hW1 hR2;have HRUN:=Lh hrun;have HC:=Lh hc;clear hrun;gi_wp2_with (gi_at_builtin;refine Qc6 rfl (.tmp 8) (.tmp 10) 29 rfl _ _ rfl rfl _ _ HRUN.out ?_);have hlen1:((pre.map PV.plain).map (Av.mk:PageP→Av PageP R2)++[(⟨⟨n1,s1,e1,v1,bo,no⟩⟩:Av PageP R2)]).length=pre.length+1:=(by simp);rw[hlen1] at hown;have hz2:W1.heap.size≤w'.heap.size:=hgr.size
  have hOP:OwnP w' w0.heap.size 36 (.slice A5 (pre.length+1) c5) (pre.map PV.plain++[⟨n1,s1,e1,v1,bo,no⟩]) R2:=HO.pushed hown (fun g hg=>by
   rw[hlen1] at hat
   rcases hat with e|e
   ·exact .inl (e▸hg)
   ·rw[hg] at e;injection e with e;exact .inr e) (by rw[HR2.out];exact .inr (.inr hz1))
  have hR2b:∀i,R2 i→w0.heap.size+4≤i:=fun i hi=>by
   rw[HR2.out] at hi;rcases hi with h|h|h
   ·have:=hR i h;omega
   ·have:=(hpm i h).1;omega
   ·omega
  refine⟨fun i=>(Value.slice A5 (pre.length+1) c5).ownBlock=some i,fun i=>R2 i∧i<w'.heap.size,⟨_,?_,fun _ h=>h,fun _ h=>h,?_,fun i hi=>by simpa using hi.2,fun i hi=>hR2b i hi.1,?_⟩,?_,fun i hi=>?_,fun i hi=>?_⟩
  ·have:=hbx2.set 0 (.slice A5 (pre.length+1) c5);simpa using this
  ·have h1:=(hOP.mono (Q:=fun i=>R2 i∧i<w'.heap.size) (fun i hi hl=>⟨hi,hl⟩)).set (w0.heap.size+1) 0 (.slice A5 (pre.length+1) c5) (fun i hi e=>by have:=hR2b i hi.1;omega);rw[List.map_append];exact h1
  ·exact((HC.out.bl.trans (hb1.mono HC.out.bl.size)).grown hgr (by have:=HC.out.bl.size;omega) (fun k hk=>by have:=hM _ (HC.out.m1 k hk);omega)).setCell (p:=⟨w0.heap.size+1,0,none⟩) (by show w0.heap.size≤w0.heap.size+1;omega) _
  ·exact((KS.of_below hb1 _).trans (KS.grown hgr (fun i e h=>by
    have hm:=HC.out.m1 i e
    rcases h with h|h
    ·have:=hM i hm;omega
    ·exact h.2 hm))).trans (KS.setCell _ _ (fun h=>by
    have h:w0.heap.size+1<wa.heap.size∨(wb.heap.size≤w0.heap.size+1∧¬M (w0.heap.size+1)):=h
    rcases h with h|h
    ·omega
    ·have:=h.1;omega))
  ·have hi:(Value.slice A5 (pre.length+1) c5).ownBlock=some i:=hi;rcases hat with e|e
   ·rw[hlen1] at e;exact .inl (HC.out.m1 i (e▸hi))
   ·rw[hlen1,hi] at e;injection e with e
    have:=hOP.lt i hi;refine .inr ⟨by omega,by simpa using this.2⟩
  ·obtain⟨h1,h2⟩:=hi;rw[HR2.out] at h1;rcases h1 with h|h|h
   ·exact .inl h
   ·exact .inr (.inl ⟨h,by have:=(hpm i h).2.2;omega⟩)
   ·exact .inr (.inr ⟨by omega,by simpa using h2⟩)
 case done=>
  rintro D xs M R W hD hD2 hS ⟨v,hc⟩ hK;have hv:=hc.bx.cell 0 rfl;gi_wp2;refine⟨by simp,.inl ⟨_,_,rfl,run_takeDeferred hK,?_⟩⟩;have hg:=grownBy_putObj' W D (.deferred none);refine⟨_,results_tmp rfl _ _ _,v,R,rfl,?_,fun i hi=>by have:=hc.ge i hi;omega,hc.bl.grown hg (by have:=hc.bl.size;omega) (fun k hk=>by cases hk;omega)⟩;have h1:=hc.own.grown hg (fun i hi e=>by have:=hc.ge i hi;injection e with e;omega);rwa [hS] at h1
 case stop=>
  rintro D c pre W hD _ _ h _;exact h.elim
set_option maxRecDepth 100000 in
theorem collect_any {m h:Int}{A:Option Addr}{c:Nat}{l:List SectP}{w0:World}(H:BookOk w0 m h A c l):
 Calls Tryz.prog 33 #[.func (.func 65) #[] #[.pointer (some ⟨w0.heap.size,0,none⟩)]] (w0.alloc (.cells #[.int .i64 m,.int .i64 h,.slice A l.length c] 27)) fun e W'=>∃v R,e=.returned v∧OwnP W' w0.heap.size 36 v (Qac m h l) R∧(∀i,R i→w0.heap.size≤i)∧Below w0.heap.size w0 W':=by
 have HA:=Lh (appendSeq_any H);clear H;obtain⟨wa,hwa⟩:∃wa,w0.alloc (.cells #[.int .i64 m,.int .i64 h,.slice A l.length c] 27)=wa:=⟨_,rfl⟩;rw[hwa] at HA ⊢;clear hwa;go_enter Tryz.func33,Tryz.ntmps33
 go_wp2_with (first|(go_at_call 64;refine HA.out.mono ?_;rintro e w2 ⟨v,R,rfl,ho,hR,hb⟩;have HO:=Lh ho;have HR:=Lh hR;have HB:=Lh hb;clear ho hR hb)|fail)
 go_ret;exact⟨_,R,rfl,HO.out,HR.out,HB.out⟩
set_option maxRecDepth 100000 in
theorem Qcs {m h:Int}{A:Option Addr}{c:Nat}{l:List SectP}{w:World}(H:BookOk w m h A c l):
 Calls Tryz.prog 12 #[.agg #[.int .i64 m,.int .i64 h,.slice A l.length c]] w fun e W'=>∃v R,e=.returned v∧OwnP W' w.heap.size 36 v (Qac m h l) R∧(∀i,R i→w.heap.size≤i)∧Below w.heap.size w W':=by
 obtain⟨wb,hwb⟩:∃wb,w.alloc (.cells #[.int .i64 m,.int .i64 h,.slice A l.length c] 27)=wb:=⟨_,rfl⟩;have hba:Below w.heap.size w wb:=by rw[←hwb];exact bR.alloc nL _
 have hz:w.heap.size≤wb.heap.size:=hba.size;have hx0:ABox wb w.heap.size 27 [.int .i64 m,.int .i64 h,.slice A l.length c]:=by rw[←hwb];exact heap_alloc_new w _
 have HC:=Lh (collect_any (H.to hba));have HA:=Lh (ball_any m h (.slice A l.length c) wb);have c0:=hx0.cell 0 rfl;have c1:=hx0.cell 1 rfl;have c2:=hx0.cell 2 rfl;have HB:=Lh hba;clear H hba hx0;go_enter Tryz.func12,Tryz.ntmps12
 go_wp2_with (first|(go_at_call 34;refine HA.out.mono ?_;rintro e w2 ⟨rfl,rfl⟩)|(go_at_call 33;refine HC.out.mono ?_;rintro e w3 ⟨v,R,rfl,ho,hR,hb⟩;have HO:=Lh ho;have HR:=Lh hR;have HB3:=Lh (HB.out.trans (hb.mono hz));clear ho hR hb)|fail)
 go_ret;exact⟨_,R,rfl,⟨HO.out.own.re hz,HO.out.at_⟩,fun i hi=>Nat.le_trans hz (HR.out i hi),HB3.out⟩
end Go.Proofs.YtakaielemicpkaaGreatDoor
namespace Go.Proofs.YtakaielemicpkaaGreatDoor
open Go.RowKit
theorem Qax {w:World}{P:Nat}{t:TypeId}{a b c:Value}(h:ABox w P t [a,b,c])(x y z:Value):ABox (((w.setCell ⟨P,0,none⟩ x).setCell ⟨P,1,none⟩ y).setCell ⟨P,2,none⟩ z) P t [x,y,z]:=by simpa using((h.set 0 x).set 1 y).set 2 z
theorem below3 {B P:Nat}{a w:World}(h:Below B a w)(hP:B≤P)(x y z:Value):Below B a (((w.setCell ⟨P,0,none⟩ x).setCell ⟨P,1,none⟩ y).setCell ⟨P,2,none⟩ z):=
 ((h.setCell (p:=⟨P,0,none⟩) hP x).setCell (p:=⟨P,1,none⟩) hP y).setCell (p:=⟨P,2,none⟩) hP z
def QaV (m h:Int)(v:Value)(n:Nat):Value:=if 16384<n then .tuple #[.agg #[.int .i64 0,.int .i64 0,.slice none 0 0],.int .i64 2] else .tuple #[.agg #[.int .i64 m,.int .i64 h,v],.int .i64 0]
set_option maxRecDepth 100000 in
theorem Qei {m h:Int}{A:Option Addr}{c:Nat}{l:List SectP}{w:World}(H:BookOk w m h A c l):
 Calls Tryz.prog 69 #[.agg #[.int .i64 m,.int .i64 h,.slice A l.length c]] w fun e W'=>e=.returned (QaV m h (.slice A l.length c) (Qac m h l).length)∧Below w.heap.size w W':=by
 obtain⟨wb,hwb⟩:∃wb,(w.alloc (.cells #[.int .i64 m,.int .i64 h,.slice A l.length c] 27)).alloc (.cells #[.int .i64 0,.int .i64 0,.slice none 0 0] 27)=wb:=⟨_,rfl⟩;have hba:Below w.heap.size w wb:=by rw[←hwb];exact(bR.alloc nL _).alloc (by simp) _
 have hx0:ABox wb w.heap.size 27 [.int .i64 m,.int .i64 h,.slice A l.length c]:=by rw[←hwb];exact(Below.heap_alloc _ _ _ (by simp)).trans (heap_alloc_new w _)
 have HX1:Hid (ABox wb (w.heap.size+1) 27 [.int .i64 0,.int .i64 0,.slice none 0 0]):=Lh (by rw[←hwb];exact Qai (by simp));have HP:=Lh (Qcs (H.to hba));have HX0:=Lh hx0;have c0:=hx0.cell 0 rfl;have c1:=hx0.cell 1 rfl;have c2:=hx0.cell 2 rfl;have HB:=Lh hba;have HWB:=Lh hwb;have hpn:(Qac m h l).length≤1000000000:=H.pn;clear H hba hx0 hwb;go_enter Tryz.func69,Tryz.ntmps69;go_upto_region 1 with(fail);rw[HWB.out]
 go_wp2_with (first
  |(go_at_call 12;refine HP.out.mono ?_;rintro e w2 ⟨v,R,rfl,ho,hR,hb2⟩;have HX02:=Lh (HX0.out.to hb2);have HX12:=Lh (HX1.out.to hb2);have HB2:Hid (Below w.heap.size w w2):=Lh (HB.out.trans (hb2.mono HB.out.size));obtain⟨A9,c9,rfl,-,-⟩:=ho.len;clear ho hR hb2 c0 c1 c2;have d0:=HX02.out.cell 0 rfl;have d1:=HX02.out.cell 1 rfl;have d2:=HX02.out.cell 2 rfl;have e0:=HX12.out.cell 0 rfl;have e1:=HX12.out.cell 1 rfl;have e2:=HX12.out.cell 2 rfl;have f0:=HX12.out.fz 0;have f1:=HX12.out.fz 1;have f2:=HX12.out.fz 2)
  |fail)
 ·have hn:16384<(Qac m h l).length:=by omega
  exact bodyPost_ret (v:=.tuple #[.agg #[.int .i64 0,.int .i64 0,.slice none 0 0],.int .i64 2]) (Qab Tryz.results69 _ _ (w.heap.size+1) _ #[.int .i64 0,.int .i64 0,.slice none 0 0] (0,0) _ rfl (Qax HX12.out _ _ _) Tryz.underlying27 rfl (by kernel_rfl)) rfl ⟨by unfold QaV;rw[if_pos hn],below3 HB2.out (by omega) _ _ _⟩
 ·have hn:¬16384<(Qac m h l).length:=by omega
  exact bodyPost_ret (v:=.tuple #[.agg #[.int .i64 m,.int .i64 h,.slice A l.length c],.int .i64 0]) (Qab Tryz.results69 _ _ (w.heap.size+1) _ #[.int .i64 m,.int .i64 h,.slice A l.length c] (0,0) _ rfl (Qax HX12.out _ _ _) Tryz.underlying27 rfl (by kernel_rfl)) rfl ⟨by unfold QaV;rw[if_neg hn],below3 HB2.out (by omega) _ _ _⟩
def frz (s:SectP):SectP:={s with frozen:=true}
theorem frz_step (l:List SectP)(P:Nat→Prop){k:Nat}(hk:k<l.length):(((l.take k).map frz++l.drop k).map (Av.mk:SectP→Av SectP P)).set k ⟨frz l[k]⟩=(((l.take (k+1)).map frz++l.drop (k+1)).map (Av.mk:SectP→Av SectP P)):=by
 have hl:((l.take k).map frz).length=k:=by rw[qM,qK];omega
 rw[←List.map_set,List.set_append_right _ _ (by omega),hl,Nat.sub_self,List.drop_eq_getElem_cons hk,sZ0,qT hk];simp only[List.map_append,List.map_cons,List.map_nil,List.append_assoc,List.cons_append,List.nil_append]
theorem frz_at (l:List SectP)(P:Nat→Prop){k:Nat}(hk:k<l.length)(h:k<(((l.take k).map frz++l.drop k).map (Av.mk:SectP→Av SectP P)).length):(((l.take k).map frz++l.drop k).map (Av.mk:SectP→Av SectP P))[k]=⟨l[k]⟩:=by
 have hl:((l.take k).map frz).length=k:=by rw[qM,qK];omega
 rw[List.getElem_map,List.getElem_append_right (by omega)];simp only[hl,Nat.sub_self];simp
set_option maxRecDepth 100000 in
theorem Qdo (A:Option Addr)(c:Nat)(l:List SectP)(m h:Int)(w:World)(hs:Sl w (fun b=>b<w.heap.size) A c l)(hsh:QaO l):
 Calls Tryz.prog 28 #[.agg #[.int .i64 m,.int .i64 h,.slice A l.length c]] w fun e W'=>∃v,e=.returned (.agg #[.int .i64 m,.int .i64 h,v])∧OwnP W' w.heap.size 45 v (l.map frz) (Up w.heap.size)∧Below w.heap.size w W':=by
 obtain⟨wb,hwb⟩:∃wb,(w.alloc (.cells #[.int .i64 m,.int .i64 h,.slice A l.length c] 27)).alloc (.cells #[.int .i64 0,.int .i64 0,.slice none 0 0] 27)=wb:=⟨_,rfl⟩;have hba:Below w.heap.size w wb:=by rw[←hwb];exact(bR.alloc nL _).alloc (by simp) _
 have hz:wb.heap.size=w.heap.size+2:=by rw[←hwb];simp
 have hx0:ABox wb w.heap.size 27 [.int .i64 m,.int .i64 h,.slice A l.length c]:=by rw[←hwb];exact(Below.heap_alloc _ _ _ (by simp)).trans (heap_alloc_new w _)
 have HX1:Hid (ABox wb (w.heap.size+1) 27 [.int .i64 0,.int .i64 0,.slice none 0 0]):=Lh (by rw[←hwb];exact Qai (by simp));have HC:=Lh (cloned_any A c l m h wb (hs.to hba) hsh);have c0:=hx0.cell 0 rfl;have c1:=hx0.cell 1 rfl;have c2:=hx0.cell 2 rfl;have HB:=Lh hba;have HZ:=Lh hz;have HWB:=Lh hwb;have hl63:l.length≤1048576:=hsh.1;clear hs hsh hba hx0 hwb hz;go_enter Tryz.func28,Tryz.ntmps28;go_upto_region 1 with(fail);rw[HWB.out]
 go_upto_region 2 with(first|(go_at_call 58;refine HC.out.mono ?_;rintro e w2 ⟨v,rfl,ho,hb2⟩;have HO:=Lh ho;have HB2:=Lh hb2;obtain⟨A5,c5,rfl,-,-⟩:=ho.len;clear ho hb2)|fail)
 obtain⟨w3,hw3⟩:∃w3,w2.alloc (.cells #[.int .i64 m,.int .i64 h,.slice A5 l.length c5] 27)=w3:=⟨_,rfl⟩;have hb3:Below w2.heap.size w2 w3:=by rw[←hw3];exact bR.alloc nL _
 have hx3:ABox w3 w2.heap.size 27 [.int .i64 m,.int .i64 h,.slice A5 l.length c5]:=by rw[←hw3];exact heap_alloc_new w2 _
 have HX13:=Lh ((HX1.out.to HB2.out).to hb3);have HO3:=Lh (HO.out.below hb3);have HB3:Hid (Below w.heap.size w w3):=Lh ((HB.out.trans (HB2.out.mono HB.out.size)).trans (hb3.mono (by have:=HB.out.size;have:=HB2.out.size;omega)));have HLT:Hid (∀k,(Value.slice A5 l.length c5).ownBlock=some k→wb.heap.size≤k∧k<w2.heap.size):=Lh HO.out.lt;have HZ2:Hid (w.heap.size+2≤w2.heap.size):=Lh (by have:=HB2.out.size;have:=HZ.out;omega);have HX3:=Lh hx3;have d2:=hx3.cell 2 rfl;rw[hw3];clear hw3 hb3 hx3 HX1 HO HB2 c0 c1 c2 HC HB;have hlc5:l.length≤c5:=by obtain⟨A9,c9,e9,-,h9,-⟩:=HO3.out.len;cases e9;exact h9
 go_wp2_with fail;clear d2;obtain⟨O3,hO3⟩:∃O3,w2.heap.size=O3:=⟨_,rfl⟩;rw[hO3] at HX3 HLT HZ2 ⊢;clear hO3
 go_loopw [10] (fun v10 wr=>∃k:Nat,k≤l.length∧v10=.int .i64 (k:Int)∧Hid (Own wr wb.heap.size 45 (.slice A5 l.length c5) (((l.take k).map frz++l.drop k).map (Av.mk:SectP→Av SectP (Up wb.heap.size))))∧Hid (ABox wr O3 27 [.int .i64 m,.int .i64 h,.slice A5 l.length c5])∧ Hid (ABox wr (w.heap.size+1) 27 [.int .i64 0,.int .i64 0,.slice none 0 0])∧Hid (Below w.heap.size w wr)) (fun v10 _=>l.length-(intOf v10).toNat)
 (case atStart=>exact⟨0,Nat.zero_le _,rfl,Lh HO3.out.own,HX3,HX13,HB3⟩);case round=>
  clear HO3 HX3 HX13 HB3;clear w3 w2;obtain⟨k,hk,rfl,HO,HX3,HX1,HB⟩:=hrel;by_cases hlt:k<l.length
  ·have hkl:(k:Int)<(l.length:Int):=by omega
   have hk0:(0:Int)≤(k:Int):=(by omega);have hkL:k<(((l.take k).map frz++l.drop k).map (Av.mk:SectP→Av SectP (Up wb.heap.size))).length:=(by simp;omega);obtain⟨g,cap,es,e1,-,-,-,hr,hc,hf⟩:=HO.out.at_ hkL;rw[frz_at l _ hlt hkL] at hr;injection e1 with e1 e1b e1c
   subst e1;clear e1b e1c;obtain⟨va,vb,rfl,-,-,-⟩:=hr;have q1:wr.cell? ⟨g,k*4+1,none⟩=some (.bool l[k].frozen):=hc 1 _ rfl;have f1:=hf (k*4+1)
   have HS:=Lh (HO.out.setg k 1 hkL (show 1<4 by omega) (.bool true) rfl ⟨frz l[k]⟩ (fun es he=>by
    rw[frz_at l _ hlt hkL] at he
    obtain⟨va,vb,rfl,h1,h2,h3⟩:=he
    exact⟨va,vb,rfl,h1,h2,h3⟩) (o:=k*4+1) rfl)
   have HST:=Lh (frz_step l (Up wb.heap.size) hlt);have x2:=HX3.out.cell 2 rfl;obtain⟨fb,hfb⟩:∃fb,l[k].frozen=fb:=⟨_,rfl⟩;rw[hfb] at q1;clear hc hf hkL hfb;go_wp2_with fail;go_roundw;have hg:=HLT.out g rfl;(case rel=>exact⟨k+1,by omega,by go_num,Lh (by rw[←HST.out];exact HS.out.1),Lh (HX3.out.other (by omega) _ _),Lh (HX1.out.other (by have:=HZ.out;omega) _ _),Lh (HB.out.setCell (p:=⟨g,k*4+1,none⟩) (by have:=HZ.out;show w.heap.size≤g;omega) _)⟩);case measure=>(first|(simp[intOf];done)|(simp[intOf];omega))
  ·have HL:Hid (((l.take k).map frz++l.drop k)=l.map frz):=Lh (by rw[show k=l.length by omega];simp);rw[HL.out] at HO;have y0:=HX3.out.cell 0 rfl;have y1:=HX3.out.cell 1 rfl;have y2:=HX3.out.cell 2 rfl;have z0:=HX1.out.cell 0 rfl;have z1:=HX1.out.cell 1 rfl;have z2:=HX1.out.cell 2 rfl;have f0:=HX1.out.fz 0;have f1:=HX1.out.fz 1;have f2:=HX1.out.fz 2;have HOP:Hid (OwnP wr wb.heap.size 45 (.slice A5 l.length c5) (l.map frz) (Up wb.heap.size)):=Lh ⟨HO.out,fun q hq=>(HLT.out q hq).1⟩;have hn1:∀i,Up wb.heap.size i→i≠w.heap.size+1:=fun i (hi:wb.heap.size≤i)=>by have:=HZ.out;omega
   have HOF:=Lh (Qcz (((HOP.out.set (w.heap.size+1) 0 (.int .i64 m) hn1).set (w.heap.size+1) 1 (.int .i64 h) hn1).set (w.heap.size+1) 2 (.slice A5 l.length c5) hn1) (show w.heap.size≤wb.heap.size by have:=HZ.out;omega));clear hn1;go_wp2_with fail
   exact bodyPost_ret (v:=.agg #[.int .i64 m,.int .i64 h,.slice A5 l.length c5]) (QbV Tryz.results28 _ _ (w.heap.size+1) _ #[.int .i64 m,.int .i64 h,.slice A5 l.length c5] (0,0) _ rfl (Qax HX1.out _ _ _) Tryz.underlying27 rfl (by kernel_rfl)) rfl ⟨_,rfl,HOF.out,below3 HB.out (by omega) _ _ _⟩
theorem Qb1 (b:Nat):∀(vs:List Value) (o:Nat) (w:World),w.grownBy (w.setCells b o vs) (some b)
 |[],_,w=>⟨rfl,rfl,rfl,Nat.le_refl _,fun _ _ _=>rfl⟩
 |v::vs,o,w=>Qbj (b:=w.setCell ⟨b,o,none⟩ v) ⟨rfl,rfl,rfl,by simp[World.setCell],fun i _ hi=>Qaa w b o v (fun e=>hi (by rw[e]))⟩ (Qb1 b vs (o+1) (w.setCell ⟨b,o,none⟩ v))
theorem Own.cutMid {α:Type}[Rep α]{w:World}{base g c:Nat}{e:TypeId}{l:List α}(h:Own w base e (.slice (some ⟨g,0,none⟩) l.length c) l){k:Nat}(hk:k<l.length):
 ∃news:List Value,news.length=(l.length-(k+1))*Rep.size α∧(∀u∈news,u.oneCell'=true)∧(∀t u,news[t]? =some u→w.cell? ⟨g,(k+1)*Rep.size α+t,none⟩=some u)∧l.length≤c∧c≤maxLen∧ (∀j,j<l.length*Rep.size α→(w.cell? ⟨g,j,none⟩).isSome=true)∧(∀j,j<l.length*Rep.size α→((w.setCells g (k*Rep.size α) news).cell? ⟨g,j,none⟩).isSome=true)∧(∀j,w.frozen? ⟨g,j,none⟩=false)∧(∀j,(w.setCells g (k*Rep.size α) news).frozen? ⟨g,j,none⟩=false)∧ ∀zs:List Value,zs.length=Rep.size α→Own ((w.setCells g (k*Rep.size α) news).setCells g ((l.length-1)*Rep.size α) zs) base e (.slice (some ⟨g,0,none⟩) (l.length-1) c) (l.eraseIdx k):=by
 obtain⟨xs,hx,ho,hq⟩:=h;rcases hx.2 with⟨h1,_⟩|⟨g',cap,cur,h1,hb,hg,hnc,hcm,hcs,htake⟩
 ·cases h1
 ·cases h1;obtain⟨n,hn⟩:∃n,l.length=n:=⟨_,rfl⟩;obtain⟨S,hS⟩:∃S,Rep.size α=S:=⟨_,rfl⟩;have hxl:=hx.1;rw[hn] at hk hnc htake hxl ⊢;rw[hS] at hcs htake hxl ⊢;simp only[hn,hS] at hq;have h2:(k+1)*S≤n*S:=Nat.mul_le_mul_right _ hk;have h3:n*S≤c*S:=Nat.mul_le_mul_right _ hnc;have h2':(k+1)*S=k*S+S:=(by rw[Nat.add_mul,Nat.one_mul]);have h4:(n-1)*S+S=n*S:=(by rw[←Nat.succ_mul];congr 1;omega);have h5:(n-(k+1))*S=n*S-(k+1)*S:=Nat.sub_mul _ _ _
  have hxc:∀j,j<n*S→xs[j]? =cur[j]? :=fun j hj=>by
   rw[←htake,List.getElem?_take,if_pos hj];simp
  have hnl:(xs.drop ((k+1)*S)).length=(n-(k+1))*S:=(by rw[List.length_drop,hxl,h5]);have hg1:=Qbd g (xs.drop ((k+1)*S)) (k*S) w hg
  have hcell:∀j,j<n*S→(w.cell? ⟨g,j,none⟩).isSome=true:=fun j hj=>by
   rw[cell_of_row _ _ _ _ _ _ hg,Array.getElem?_eq_getElem (by omega)];rfl
  have hcell1:∀j,j<n*S→((w.setCells g (k*S) (xs.drop ((k+1)*S))).cell? ⟨g,j,none⟩).isSome=true:=fun j hj=>by
   rw[cell_of_row _ _ _ _ _ _ hg1,Array.getElem?_eq_getElem (by rw[QbS];omega)];rfl
  refine⟨xs.drop ((k+1)*S),hnl,fun u hu=>ho u (List.mem_of_mem_drop hu),fun t u hu=>?_,hnc,hcm,hcell,hcell1,fun j=>by simp[World.frozen?,hg],fun j=>by simp[World.frozen?,hg1],fun zs hz=>?_⟩
  ·rw[List.getElem?_drop] at hu;have ht:=(List.getElem?_eq_some_iff.1 hu).1;rw[cell_of_row _ _ _ _ _ _ hg,←hxc _ (by omega)];exact hu
  ·have hle:(l.eraseIdx k).length=n-1:=by rw[List.length_eraseIdx,hn,if_pos hk]
   have hg2:=Qbd g zs ((n-1)*S) _ hg1;have hlen2:(Qdd (Qdd cur (k*S) (xs.drop ((k+1)*S))) ((n-1)*S) zs).size=cur.size:=by rw[QbS,QbS]
   have hget:∀j,j<(n-1)*S→(Qdd (Qdd cur (k*S) (xs.drop ((k+1)*S))) ((n-1)*S) zs)[j]? =if k*S≤j then xs[j+S]? else xs[j]? :=fun j hj=>by
    rw[QdM _ _ _ _ (by rw[QbS];omega),if_neg (by omega),QdM _ _ _ _ (by rw[hnl];omega),hnl];by_cases hj2:k*S≤j
    ·rw[if_pos ⟨hj2,by omega⟩,if_pos hj2,List.getElem?_drop];congr 1;omega
    ·rw[if_neg (by omega),if_neg hj2,hxc j (by omega)]
   have hys:∀j,(((Qdd (Qdd cur (k*S) (xs.drop ((k+1)*S))) ((n-1)*S) zs).toList.take ((n-1)*S)))[j]? =if j<(n-1)*S then(if k*S≤j then xs[j+S]? else xs[j]?) else none:=fun j=>by
    rw[List.getElem?_take];by_cases hj:j<(n-1)*S
    ·rw[if_pos hj,if_pos hj,←hget j hj];simp
    ·rw[if_neg hj,if_neg hj]
   refine⟨(Qdd (Qdd cur (k*S) (xs.drop ((k+1)*S))) ((n-1)*S) zs).toList.take ((n-1)*S),⟨?_,.inr ⟨g,c,_,by rw[hle],hb,hg2,by omega,hcm,by rw[hlen2,hS];exact hcs,by rw[hle,hS]⟩⟩,?_,?_⟩
   ·rw[qK,Array.length_toList,hlen2,hle,hS];omega
   ·intro u hu;obtain⟨j,hj⟩:=List.getElem?_of_mem hu;rw[hys] at hj;split at hj
    ·split at hj
     ·exact ho u (List.mem_of_getElem? hj)
     ·exact ho u (List.mem_of_getElem? hj)
    ·cases hj
   ·intro i hi;rw[hle] at hi;simp only[hS];have hi2:(i+1)*S≤(n-1)*S:=Nat.mul_le_mul_right _ (by omega);have hi3:(i+1)*S=i*S+S:=by rw[Nat.add_mul,Nat.one_mul]
    have keep:Kept (fun b=>some b≠(Value.slice (some ⟨g,0,none⟩) n c).ownBlock) w ((w.setCells g (k*S) (xs.drop ((k+1)*S))).setCells g ((n-1)*S) zs):=fun b hb _=>by
     have hbg:b≠g:=fun e=>hb (by rw[e];rfl)
     rw[QaT g hbg,QaT g hbg]
    rw[List.getElem_eraseIdx];by_cases hik:i<k
    ·rw[dif_pos hik];have hi4:(i+1)*S≤k*S:=Nat.mul_le_mul_right _ hik;have ht:(((Qdd (Qdd cur (k*S) (xs.drop ((k+1)*S))) ((n-1)*S) zs).toList.take ((n-1)*S)).drop (i*S)).take S=(xs.drop (i*S)).take S:=by
      apply List.ext_getElem?;intro j;rw[List.getElem?_take,List.getElem?_drop,hys,List.getElem?_take,List.getElem?_drop];by_cases hj:j<S
      ·rw[if_pos hj,if_pos hj,if_pos (by omega),if_neg (by omega)]
      ·rw[if_neg hj,if_neg hj]
     rw[ht];exact Rep.keep (hq i (by omega)) keep
    ·rw[dif_neg hik];have hi4:k*S≤i*S:=Nat.mul_le_mul_right _ (by omega);have ht:(((Qdd (Qdd cur (k*S) (xs.drop ((k+1)*S))) ((n-1)*S) zs).toList.take ((n-1)*S)).drop (i*S)).take S=(xs.drop ((i+1)*S)).take S:=by
      apply List.ext_getElem?;intro j;rw[List.getElem?_take,List.getElem?_drop,hys,List.getElem?_take,List.getElem?_drop];by_cases hj:j<S
      ·rw[if_pos hj,if_pos hj,if_pos (by omega),if_pos (by omega)];congr 1;omega
      ·rw[if_neg hj,if_neg hj]
     rw[ht];exact Rep.keep (hq (i+1) (by omega)) keep
theorem run_clear_sect {P:Program}(w:World)(t e ty:TypeId)(z:Value)(ht:P.underlying t=some (.slice e))(hv:∀w,(zeroValue e).run P w=.ok z w)(b o c:Nat)(zs:List Value)(hz:(Builtin.zeroCells z.cells 1).toList=zs)(h1:∀u∈zs,u.oneCell'=true) (hc:∀j,j<zs.length→(w.cell? ⟨b,o+j,none⟩).isSome=true) (hf:∀j,j<zs.length→w.frozen? ⟨b,o+j,none⟩=false):
 (Builtin.clear_ #[t] ty #[.slice (some ⟨b,o,none⟩) 1 c]).run P w=.ok (.tuple #[]) (w.setCells b o zs):=by
 have hst:=run_storeCells_cells (P:=P) b o zs 0 w (by simpa using hc) (by simpa using hf) h1;simp only[Nat.add_zero] at hst;simp[Builtin.clear_,run_underlying ht,hv,hz,hst]
theorem Qc3 {α β:Type}(f:α→β):∀(l:List α) (k:Nat),(l.map f).eraseIdx k=(l.eraseIdx k).map f
 |[],_=>rfl
 |_::_,0=>rfl
 |a::l,k+1=>by simp[Qc3 f l k]
def sectZ:List Value:=[.int .i64 0,.bool false,.slice none 0 0,.slice none 0 0]
set_option maxRecDepth 1000000 in
theorem delete_any {w:World}{base g c:Nat}{l:List SectP}{P:Nat→Prop}(H:OwnP w base 45 (.slice (some ⟨g,0,none⟩) l.length c) l P){k j n:Nat}(hk:k<l.length)(hn:l.length=n)(hj:j=k+1):
 Calls Tryz.prog 71 #[.slice (some ⟨g,0,none⟩) n c,.int .i64 (k:Int),.int .i64 (j:Int)] w fun e w'=>e=.returned (.slice (some ⟨g,0,none⟩) (n-1) c)∧OwnP w' base 45 (.slice (some ⟨g,0,none⟩) (l.eraseIdx k).length c) (l.eraseIdx k) P∧w.grownBy w' (some g):=by
 have hgrw:w.grownBy w.drew (some g):=⟨rfl,rfl,rfl,Nat.le_refl _,fun _ _ _=>rfl⟩;have H1:Own w.drew base 45 (.slice (some ⟨g,0,none⟩) (l.map (Av.mk:SectP→Av SectP P)).length c) (l.map (Av.mk:SectP→Av SectP P)):=by rw[qM];exact H.own.kept (fun _ _=>rfl)
 have hPg:P g:=H.at_ g rfl;have hkL:k<(l.map (Av.mk:SectP→Av SectP P)).length:=by rw[qM];exact hk
 obtain⟨news,h1,h2,h3,h4,h5,h6,h7,h8,h9,h10⟩:=H1.cutMid hkL;rw[qM] at h1 h4 h6 h7 h10;rw[Qc3] at h10;have hs4:Rep.size (Av SectP P)=4:=rfl;rw[hs4] at h1 h3 h6 h7 h9 h10;rw[hn] at hk h1 h4 h6 h7 h10;have hel:(l.eraseIdx k).length=n-1:=by rw[List.length_eraseIdx,hn,if_pos hk]
 obtain⟨i0,hi0,hz0,hz1,hz2⟩:=info_parts QaL;have hzv:∀w,(zeroValue 45).run Tryz.prog w=.ok (.agg #[.int .i64 0,.bool false,.slice none 0 0,.slice none 0 0]) w:=fun w=>by simp[zeroValue,typeInfo,hi0,hz0]
 obtain⟨Ad,hA,hsrc⟩:∃A:Addr,(if c=j then some (⟨g,0,none⟩:Addr) else some ⟨g,j*4,none⟩)=some A∧Hid (∀t u,news[t]? =some u→w.drew.cell? (A.add t)=some u):=by
  by_cases h:c=j
  ·refine⟨⟨g,0,none⟩,by simp[h],fun t u hu=>?_⟩
   have h0:news.length=0:=by rw[h1];have:n-(k+1)=0:=by omega
                             rw[this,Nat.zero_mul]
   rw[List.length_eq_zero_iff.1 h0] at hu;simp at hu
  ·refine⟨⟨g,j*4,none⟩,by simp[h],fun t u hu=>?_⟩;rw[Addr.add_lit,hj];exact h3 t u hu
 obtain⟨W1,hW1⟩:∃W1,w.drew.setCells g (k*4) news=W1:=⟨_,rfl⟩;rw[hW1] at h7 h9 h10;have hW1g:w.drew.grownBy W1 (some g):=by rw[←hW1];exact Qb1 g _ _ _
 have hcl:∀ty,(Builtin.clear_ #[25] ty #[.slice (some ⟨g,(n-1)*4,none⟩) 1 (c-(n-1))]).run Tryz.prog W1=.ok (.tuple #[]) (W1.setCells g ((n-1)*4) sectZ):=
  fun ty=>run_clear_sect W1 _ _ ty _ Tryz.underlying25 hzv g ((n-1)*4) _ sectZ (by kernel_rfl) (by decide) (fun i hi=>h7 _ (by have:i<4:=hi;omega)) (fun i _=>h9 _)
 have HFIN:=Lh (h10 sectZ rfl);have HGR:=Lh (Qbj (Qbj hgrw hW1g) (Qb1 g sectZ ((n-1)*4) W1));have HNEWS:=Lh h1;have HONE:=Lh h2
 have HSPARE:Hid (∀t,t<news.length→(w.drew.cell? ⟨g,0+k*4+t,none⟩).isSome=true∧w.drew.frozen? ⟨g,0+k*4+t,none⟩=false):=Lh fun t ht=>by
  rw[Nat.zero_add];exact⟨h6 _ (by rw[h1] at ht;omega),h8 _⟩
 have HW1:=Lh hW1;have HPG:=Lh hPg;have HEL:=Lh hel;have hkc:k≤c:=by omega
 have hjc:j≤c:=by omega
 have hkj:¬k=j:=by omega
 have hjn:j≤n:=by omega
 have mixed:Tryz.prog.follows Departure.mixedOrders=true:=by kernel_rfl
 have hcm:c≤9223372036854775807:=by simpa[maxLen] using h5
 have hkn:k+(n-j)=n-1:=by omega
 have hnn:n-(n-1)=1:=by omega
 have hn1c:n-1≤c:=by omega
 have hnc1:¬c=n-1:=by omega
 have hn1n:n-1≤n:=by omega
 clear hgrw H1 H hPg hkL h1 h2 h3 h5 h6 h7 h8 h9 h10 hW1 hW1g hel hn hj;go_enter Tryz.func71,Tryz.ntmps71;go_wp2_with fail;go_region_law_o (refine step_append_room rfl (.tmp 22) (.tmp 25) 25 rfl 45 i0 4 Tryz.underlying25 hi0 hz1 g 0 k c (by simp[Act.eval,Act.put]) Ad (n-j) (c-j) news (by simp[Act.eval,Act.put]) (by rw[HNEWS.out];congr 1;omega) hsrc.out HONE.out (by omega) HSPARE.out ?_;rw[Nat.zero_add,HW1.out,hkn]);go_wp2;go_ret;exact⟨rfl,⟨by rw[HEL.out];exact HFIN.out,fun q hq=>by cases hq;exact HPG.out⟩,HGR.out⟩
def QaM (l:List SectP)(k:Nat):List SectP:=if(l[k]?.map (·.frozen)).getD false then l else l.eraseIdx k
set_option maxRecDepth 100000 in
theorem strike_hit (A:Option Addr)(c:Nat)(l:List SectP)(m h e:Int)(w:World)(hs:Sl w (fun b=>b<w.heap.size) A c l)(hsh:QaO l)(k:Nat)(hk:k<l.length)(hf:QaC l e=(k:Int)):
 Calls Tryz.prog 39 #[.agg #[.int .i64 m,.int .i64 h,.slice A l.length c],.int .i64 e] w fun x W'=>∃v,x=.returned (.tuple #[.agg #[.int .i64 m,.int .i64 h,v],.int .i64 0])∧OwnP W' w.heap.size 45 v (QaM l k) (Up w.heap.size)∧Below w.heap.size w W':=by
 obtain⟨wb,hwb⟩:∃wb,(w.alloc (.cells #[.int .i64 m,.int .i64 h,.slice A l.length c] 27)).alloc (.cells #[.int .i64 0,.int .i64 0,.slice none 0 0] 27)=wb:=⟨_,rfl⟩;have hba:Below w.heap.size w wb:=by rw[←hwb];exact(bR.alloc nL _).alloc (by simp) _
 have hz:wb.heap.size=w.heap.size+2:=by rw[←hwb];simp
 have hx0:ABox wb w.heap.size 27 [.int .i64 m,.int .i64 h,.slice A l.length c]:=by rw[←hwb];exact(Below.heap_alloc _ _ _ (by simp)).trans (heap_alloc_new w _)
 have hx1:ABox wb (w.heap.size+1) 27 [.int .i64 0,.int .i64 0,.slice none 0 0]:=by rw[←hwb];exact Qai (by simp)
 have hl63:l.length≤1048576:=hsh.1;have HF:=Lh (QbX A c l m h e wb (hs.to hba) (by omega))
 have HCL:Hid (∀W,Below wb.heap.size wb W→Calls Tryz.prog 58 #[.agg #[.int .i64 m,.int .i64 h,.slice A l.length c]] W fun e w'=>∃v,e=.returned (.agg #[.int .i64 m,.int .i64 h,v])∧OwnP w' W.heap.size 45 v l (Up W.heap.size)∧Below W.heap.size W w'):=
  Lh fun W hW=>cloned_any A c l m h W ((hs.to hba).to hW) hsh
 have HX0:=Lh hx0;have HX1:=Lh hx1;have c0:=hx0.cell 0 rfl;have c1:=hx0.cell 1 rfl;have c2:=hx0.cell 2 rfl;have HB:=Lh hba;have HZ:=Lh hz;have HWB:=Lh hwb;have hk0:¬((k:Int)<0):=by omega
 clear hs hsh hba hx0 hx1 hwb hz;rw[hf] at HF;clear hf;go_enter Tryz.func39,Tryz.ntmps39;go_upto_region 1 with(fail);rw[HWB.out]
 go_upto_region 5 with(first
  |(go_at_call 43;refine HF.out.mono ?_;rintro e w1 ⟨rfl,hb1⟩;have HB1:=Lh hb1;have HX01:=Lh (HX0.out.to hb1);have HX11:=Lh (HX1.out.to hb1);clear hb1 c0 c1 c2;have d0:=HX01.out.cell 0 rfl;have d1:=HX01.out.cell 1 rfl;have d2:=HX01.out.cell 2 rfl)
  |(go_at_call 58;refine(HCL.out _ HB1.out).mono ?_;rintro e w2 ⟨v,rfl,ho,hb2⟩;have HO:=Lh ho;have HB2:=Lh hb2;obtain⟨A5,c5,rfl,-,-⟩:=ho.len;clear ho hb2 d0 d1 d2)
  |fail)
 obtain⟨w3,hw3⟩:∃w3,w2.alloc (.cells #[.int .i64 m,.int .i64 h,.slice A5 l.length c5] 27)=w3:=⟨_,rfl⟩;have hb3:Below w2.heap.size w2 w3:=by rw[←hw3];exact bR.alloc nL _
 have hx3:ABox w3 w2.heap.size 27 [.int .i64 m,.int .i64 h,.slice A5 l.length c5]:=by rw[←hw3];exact heap_alloc_new w2 _
 have hz3:w3.heap.size=w2.heap.size+1:=by rw[←hw3];simp
 have hx13:=(HX11.out.to HB2.out).to hb3;have hz1:wb.heap.size≤w1.heap.size:=HB1.out.size;have hz2:w1.heap.size≤w2.heap.size:=HB2.out.size;have HO3:Hid (OwnP w3 w1.heap.size 45 (.slice A5 l.length c5) l (fun i=>w1.heap.size≤i∧i<w2.heap.size)):=Lh ((HO.out.mono (fun i hi hl=>⟨hi,hl⟩)).below hb3);have HB3:Hid (Below w.heap.size w w3):=Lh (((HB.out.trans (HB1.out.mono HB.out.size)).trans (HB2.out.mono (by have:=HB.out.size;omega))).trans (hb3.mono (by have:=HB.out.size;omega)));obtain⟨g,cap,es,e1,hg1,hg2,-,hr,hc,-⟩:=HO3.out.own.at_ (k:=k) (by rw[qM];exact hk);rw[List.getElem_map] at hr;rw[qM] at e1;injection e1 with e1 e1b e1c
 subst e1;clear e1b e1c;obtain⟨va,vb,rfl,-,-,-⟩:=hr;have q1:w3.cell? ⟨g,k*4+1,none⟩=some (.bool l[k].frozen):=hc 1 _ rfl;have hg4:w1.heap.size≤g∧g<w2.heap.size:=HO3.out.at_ g rfl;have d0:=hx3.cell 0 rfl;have d1:=hx3.cell 1 rfl;have d2:=hx3.cell 2 rfl;have r0:=hx13.cell 0 rfl;have r1:=hx13.cell 1 rfl;have r2:=hx13.cell 2 rfl;have f0:=hx13.fz 0;have f1:=hx13.fz 1;have f2:=hx13.fz 2;have HX13:=Lh hx13;have HX3:=Lh hx3;have hlc5:l.length≤c5:=by obtain⟨A9,c9,e9,-,h9,-⟩:=HO3.out.len;cases e9;exact h9
 rw[hw3];have HZ12:=Lh hz1;have HZ22:=Lh hz2;have HZ3:=Lh hz3;have HG4:=Lh hg4;clear hw3 hb3 hx3 HX11 HX01 HX0 HX1 HO HB2 HB1 HF HCL HWB HB hc hx13 hg1 hg2 hz1 hz2 hz3 hg4;cases hfb:l[k].frozen with
 |true=>
  rw[hfb] at q1;have hst:QaM l k=l:=(by unfold QaM;rw[qG hk];simp[hfb]);have HST:=Lh hst;clear hst hfb;go_wp2_with fail;have hwz:w.heap.size+2≤w1.heap.size:=(by have:=HZ.out;have:=HZ12.out;omega);have hn1:∀i,(w1.heap.size≤i∧i<w2.heap.size)→i≠w.heap.size+1:=fun i hi=>by omega
  have HOF:=((HO3.out.set (w.heap.size+1) 0 (.int .i64 m) hn1).set (w.heap.size+1) 1 (.int .i64 h) hn1).set (w.heap.size+1) 2 (.slice (some ⟨g,0,none⟩) l.length c5) hn1
  exact bodyPost_ret (v:=.tuple #[.agg #[.int .i64 m,.int .i64 h,.slice (some ⟨g,0,none⟩) l.length c5],.int .i64 0]) (Qab Tryz.results39 _ _ (w.heap.size+1) _ #[.int .i64 m,.int .i64 h,.slice (some ⟨g,0,none⟩) l.length c5] (0,0) _ rfl (Qax HX13.out _ _ _) Tryz.underlying27 rfl (by kernel_rfl)) rfl ⟨_,rfl,by rw[HST.out];exact Qcz (HOF.mono (Q:=Up w1.heap.size) (fun i hi _=>hi.1)) (by omega),below3 HB3.out (by omega) _ _ _⟩
 |false=>
  rw[hfb] at q1;have hst:QaM l k=l.eraseIdx k:=(by unfold QaM;rw[qG hk];simp[hfb]);have HST:=Lh hst;have hdel:=delete_any (j:=k+1) (n:=l.length) HO3.out hk rfl rfl;rw[Int.natCast_succ] at hdel;have HDEL:=Lh hdel;clear hst hfb hdel;have hlc:(l.length-1)≤c5:=by omega
  go_wp2_with (first
   |(go_at_call 71;refine HDEL.out.mono ?_;rintro e w4 ⟨rfl,ho,hgr⟩;have HO4:=Lh ho;have HGR:=Lh hgr;have HX34:Hid (ABox w4 w2.heap.size 27 [.int .i64 m,.int .i64 h,.slice (some ⟨g,0,none⟩) l.length c5]):=Lh ((hgr.block _ HX3.out.lt (fun e=>by cases e;have:=HG4.out;omega)).trans HX3.out);have HX14:Hid (ABox w4 (w.heap.size+1) 27 [.int .i64 0,.int .i64 0,.slice none 0 0]):=Lh ((hgr.block _ HX13.out.lt (fun e=>by cases e;have:=HG4.out;have:=HZ.out;have:=HZ12.out;omega)).trans HX13.out);have HX35:=Lh (HX34.out.set 2 (.slice (some ⟨g,0,none⟩) (l.length-1) c5));have HX15:=Lh (HX14.out.other (Q:=w2.heap.size) (by have:=HG4.out;have:=HZ.out;have:=HZ12.out;omega) 2 (.slice (some ⟨g,0,none⟩) (l.length-1) c5));clear d0 d1 d2 r0 r1 r2 f0 f1 f2 ho hgr q1;have y0:=HX34.out.cell 2 rfl;have y1:=HX34.out.fz 2;have d0:=HX35.out.cell 0 rfl;have d1:=HX35.out.cell 1 rfl;have d2:=HX35.out.cell 2 rfl;have r0:=HX15.out.cell 0 rfl;have r1:=HX15.out.cell 1 rfl;have r2:=HX15.out.cell 2 rfl;have f0:=HX15.out.fz 0;have f1:=HX15.out.fz 1;have f2:=HX15.out.fz 2)
   |fail)
  have hel:(l.eraseIdx k).length=l.length-1:=(by rw[List.length_eraseIdx,if_pos hk]);have hwz:w.heap.size+2≤w1.heap.size:=(by have:=HZ.out;have:=HZ12.out;omega);have hz22:=HZ22.out;have ho4:=HO4.out;rw[hel] at ho4;have hn1:∀i,(w1.heap.size≤i∧i<w2.heap.size)→i≠w.heap.size+1:=fun i hi=>by omega
  have hn2:∀i,(w1.heap.size≤i∧i<w2.heap.size)→i≠w2.heap.size:=fun i hi=>by omega
  have HOF:=(((ho4.set w2.heap.size 2 (.slice (some ⟨g,0,none⟩) (l.length-1) c5) hn2).set (w.heap.size+1) 0 (.int .i64 m) hn1).set (w.heap.size+1) 1 (.int .i64 h) hn1).set (w.heap.size+1) 2 (.slice (some ⟨g,0,none⟩) (l.length-1) c5) hn1;have hb4:Below w.heap.size w w4:=HB3.out.grown HGR.out HB3.out.size (fun q hq=>by cases hq;have:=HG4.out;omega)
  exact bodyPost_ret (v:=.tuple #[.agg #[.int .i64 m,.int .i64 h,.slice (some ⟨g,0,none⟩) (l.length-1) c5],.int .i64 0]) (Qab Tryz.results39 _ _ (w.heap.size+1) _ #[.int .i64 m,.int .i64 h,.slice (some ⟨g,0,none⟩) (l.length-1) c5] (0,0) _ rfl (Qax HX15.out _ _ _) Tryz.underlying27 rfl (by kernel_rfl)) rfl ⟨_,rfl,by rw[HST.out];exact Qcz (HOF.mono (Q:=Up w1.heap.size) (fun i hi _=>hi.1)) (by omega),below3 (hb4.setCell (p:=⟨w2.heap.size,2,none⟩) (by show w.heap.size≤w2.heap.size;omega) _) (by omega) _ _ _⟩
set_option maxRecDepth 100000 in
theorem strike_miss (A:Option Addr)(c:Nat)(l:List SectP)(m h e:Int)(w:World)(hs:Sl w (fun b=>b<w.heap.size) A c l)(hsh:QaO l)(hf:QaC l e= -1):
 Calls Tryz.prog 39 #[.agg #[.int .i64 m,.int .i64 h,.slice A l.length c],.int .i64 e] w fun x W'=>x=.returned (.tuple #[.agg #[.int .i64 0,.int .i64 0,.slice none 0 0],.int .i64 3])∧Below w.heap.size w W':=by
 obtain⟨wb,hwb⟩:∃wb,(w.alloc (.cells #[.int .i64 m,.int .i64 h,.slice A l.length c] 27)).alloc (.cells #[.int .i64 0,.int .i64 0,.slice none 0 0] 27)=wb:=⟨_,rfl⟩;have hba:Below w.heap.size w wb:=by rw[←hwb];exact(bR.alloc nL _).alloc (by simp) _
 have hx0:ABox wb w.heap.size 27 [.int .i64 m,.int .i64 h,.slice A l.length c]:=by rw[←hwb];exact(Below.heap_alloc _ _ _ (by simp)).trans (heap_alloc_new w _)
 have hx1:ABox wb (w.heap.size+1) 27 [.int .i64 0,.int .i64 0,.slice none 0 0]:=by rw[←hwb];exact Qai (by simp)
 have hl63:l.length≤1048576:=hsh.1;have HF:=Lh (QbX A c l m h e wb (hs.to hba) (by omega));have HX1:=Lh hx1;have c0:=hx0.cell 0 rfl;have c1:=hx0.cell 1 rfl;have c2:=hx0.cell 2 rfl;have HB:=Lh hba;have HWB:=Lh hwb;clear hs hsh hba hx0 hx1 hwb;rw[hf] at HF;clear hf;go_enter Tryz.func39,Tryz.ntmps39;go_upto_region 1 with(fail);rw[HWB.out]
 go_wp2_with (first
  |(go_at_call 43;refine HF.out.mono ?_;rintro e w1 ⟨rfl,hb1⟩;have HB1:=Lh hb1;have HX11:=Lh (HX1.out.to hb1);clear hb1 c0 c1 c2;have d0:=HX11.out.cell 0 rfl;have d1:=HX11.out.cell 1 rfl;have d2:=HX11.out.cell 2 rfl;have f0:=HX11.out.fz 0;have f1:=HX11.out.fz 1;have f2:=HX11.out.fz 2)
  |fail)
 exact bodyPost_ret (v:=.tuple #[.agg #[.int .i64 0,.int .i64 0,.slice none 0 0],.int .i64 3]) (Qab Tryz.results39 _ _ (w.heap.size+1) _ #[.int .i64 0,.int .i64 0,.slice none 0 0] (0,0) _ rfl (Qax HX11.out _ _ _) Tryz.underlying27 rfl (by kernel_rfl)) rfl ⟨rfl,below3 (HB.out.trans (HB1.out.mono HB.out.size)) (by omega) _ _ _⟩
end Go.Proofs.YtakaielemicpkaaGreatDoor
