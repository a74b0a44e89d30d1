/- Texts of VwCLs. -/
import Derived.Test.YtegaapiocihcpaaGreatDoorVZc7
set_option maxHeartbeats 16000000
namespace Go.Proofs.YtegaapiocihcpaaGreatDoor
open Go.RowKit
def curR (d:Nat)(cur:Int × Nat):Int:=if d=0 then -1 else cur.1
set_option maxRecDepth 100000 in
theorem rends_any (A:Option Addr)(c:Nat)(ws:List Int)(m:Int)(w:World)(hs:Sl w (fun b=>b<w.heap.size) A c ws)(hr:Reg ws m):
 Calls Tryz.prog 191 #[.slice A ws.length c,.int .i64 m] w fun e w'=>∃v,e=.returned (.tuple #[v,.int .i64 0])∧Own w' w.heap.size 3 v ((QcC ws m).map (fun(n:Nat)=>(n:Int)))∧Below w.heap.size w w':=by
 have HC:=Lh (regular_any A c ws m w hs hr);have HS:=Lh hs;have HR:=Lh hr;have h1:m≤2000:=hr.hi;have h2:500≤m:=hr.lo;have h3:ws.length≤500:=hr.n;have hn1:Value.int .i64 ((ws.length:Int)+1)=Value.int .i64 ((ws.length+1:Nat):Int):=by rw[Int.natCast_add];rfl
 have HN1:=Lh hn1;clear hs hr hn1;go_enter Tryz.func191,Tryz.ntmps191;go_wp2_with fail;refine HC.out.mono ?_;rintro e w1 ⟨rfl,hb1⟩;have HB1:=Lh hb1;clear HC hb1
 go_wp2_with (first|(refine QaY rfl 22 (.tmp 25) (.tmp 25) rfl 3 (.int .i64 0) 1 8 Tryz.underlying22 QaH (ws.length+1) HN1.out HN1.out (by omega) (by omega) ?_)|(refine QaY rfl 22 (.tmp 28) (.tmp 28) rfl 3 (.int .i64 0) 1 8 Tryz.underlying22 QaH (ws.length+1) HN1.out HN1.out (by omega) (by omega) ?_)|fail)
 have hr0:=Qbb w1 (ws.length+1) 3;have hr1:=Qbb (w1.alloc (.cells (madeCells #[Value.int .i64 0] (ws.length+1)) 3)) (ws.length+1) 3;rw[World.size_alloc] at hr1;have hb1:Below w1.heap.size w1 (w1.alloc (.cells (madeCells #[Value.int .i64 0] (ws.length+1)) 3)):=bR.alloc nL _;have hb2:Below (w1.alloc (.cells (madeCells #[Value.int .i64 0] (ws.length+1)) 3)).heap.size (w1.alloc (.cells (madeCells #[Value.int .i64 0] (ws.length+1)) 3)) _:=bR.alloc nL (.cells (madeCells #[Value.int .i64 0] (ws.length+1)) 3);have HCR:=Lh (hr0.to hb2);have HER:=Lh hr1;have HBc:=Lh (HB1.out.trans ((hb1.trans (hb2.mono (by simp))).mono HB1.out.size));obtain⟨Cb,hCb⟩:∃Cb,w1.heap.size=Cb:=⟨_,rfl⟩;have HNE:Hid (Cb≠Cb+1∧w.heap.size≤Cb∧w.heap.size≤Cb+1):=Lh ⟨by omega,by have:=HB1.out.size;omega,by have:=HB1.out.size;omega⟩;obtain⟨Eb,hEb⟩:∃Eb,Cb+1=Eb:=⟨_,rfl⟩;obtain⟨wA,hwA⟩:∃wA,(w1.alloc (.cells (madeCells #[Value.int .i64 0] (ws.length+1)) 3)).alloc (.cells (madeCells #[Value.int .i64 0] (ws.length+1)) 3)=wA:=⟨_,rfl⟩;rw[hwA] at HCR HER HBc ⊢;rw[hCb] at HCR HER ⊢;rw[hEb] at HER HNE ⊢;clear hr0 hr1 hb1 hb2 hwA hCb hEb HB1 HN1;go_loopw [10] (fun z wr=>∃(k:Nat) (i1:Nat),z=.int .i64 ((i1:Int)-1)∧Hid (i1+k=ws.length)∧Hid (IRow wr Cb 3 (List.replicate i1 0++(bestL ws m k).map (·.1)))∧Hid (IRow wr Eb 3 (List.replicate i1 0++(bestL ws m k).map (fun x=>(x.2:Int))))∧Hid (Below w.heap.size w wr)) (fun z _=>(intOf z+1).toNat);(case atStart=>exact⟨0,ws.length,rfl,Lh (by omega),Lh (by rw[←rowC_start];exact HCR.out),Lh (by rw[←rowE_start];exact HER.out),HBc⟩);case round=>
  clear HCR HER HBc;obtain⟨k,i1,rfl,HIK,HCR,HER,HBw⟩:=hrel;by_cases hz:i1=0
  ·subst hz;have HKN:Hid (k=ws.length):=Lh (by have:=HIK.out;omega);have HE0:Hid (IRow wr Eb 3 ((bestL ws m ws.length).map (fun x=>(x.2:Int)))):=Lh (by have:=HER.out;rw[HKN.out] at this;exact this);clear HER HCR HKN HIK;rw[show((0:Nat):Int)-1= -1 from rfl];go_wp2_with fail;obtain⟨wo,rfl⟩:∃wo:World,wo=wr:=⟨_,rfl⟩;go_loopw [14,15] (fun v vi wq=>∃(f a:Nat) (dn:List Nat),vi=.int .i64 (a:Int)∧a≤ws.length∧Hid (ws.length-a≤f)∧Hid (QcC ws m=dn++chainE ((bestL ws m ws.length).map (·.2)) ws.length f a)∧Hid (dn.length≤a)∧Hid (Own wq wo.heap.size 3 v (dn.map (fun(n:Nat)=>(n:Int))))∧Hid (Below wo.heap.size wo wq)) (fun _ vi _=>ws.length-(intOf vi).toNat);(case atStart=>exact⟨ws.length,0,[],rfl,Nat.zero_le _,Lh (by omega),Lh rfl,Lh (Nat.zero_le _),Lh (Own.nil _ _ _),Lh bR⟩);case round=>
    obtain⟨f,a,dn,rfl,han,HF,HEN,HDL,HO,HBq⟩:=hrel;by_cases hlt:a<ws.length
    ·have hai:(a:Int)<(ws.length:Int):=by omega
     have ha0:(0:Int)≤(a:Int):=(by omega);obtain⟨f',rfl⟩:∃f',f=f'+1:=⟨f-1,by have:=HF.out;omega⟩;have HEA:=Lh (Qdd HR.out a hlt);have HNX:Hid (QcC ws m=(dn++[(bestAt ws m a).2])++chainE ((bestL ws m ws.length).map (·.2)) ws.length f' (bestAt ws m a).2):=Lh (by rw[HEN.out,chain_at ws m a f' hlt];simp);have HE1:=Lh (HE0.out.to HBq.out);have c0:wr.cell? ⟨Eb,a,none⟩=some (.int .i64 ((bestAt ws m a).2:Int)):=HE1.out.cell a (ends_at ws m a hlt);generalize (bestAt ws m a).2=en at*;have hba:Below wr.heap.size wr (wr.alloc (.cells #[.int .i64 (en:Int)] 3)):=bR.alloc nL _;have HO2:=Lh (HO.out.below hba);have HI:Hid (I64 (en:Int)):=Lh (by have:=HEA.out;unfold I64;omega);have HLD:Hid (dn.length≤500):=Lh (by have:=HDL.out;omega)
     have HCE:Hid (∀W,Below wo.heap.size wo W→W.cell? ⟨Eb,a,none⟩=some (.int .i64 (en:Int))):=Lh (fun W hW=>by
      have h1:=c0
      have h2:=HE0.out.lt
      exact((hW.cell (p:=⟨Eb,a,none⟩) h2).trans ((HBq.out.cell (p:=⟨Eb,a,none⟩) h2).symm)).trans h1)
     clear hba
     go_upto_region 26 with(first|(at_builtin;refine Qal (α:=Int) _ rfl (.tmp 97) (.tmp 102) 22 rfl wo.heap.size 3 (.int .i64 0) 8 Tryz.underlying22 QaH rfl (by decide) _ (dn.map (fun(n:Nat)=>(n:Int))) rfl HO2.out wr.heap.size #[.int .i64 (en:Int)] (en:Int) (0,0) 3 rfl (heap_alloc_new wr _) ⟨rfl,HI.out⟩ (by have:=HLD.out;rw[qM];omega) (by have:=HLD.out;rw[qM];omega) (by have:=HBq.out.size;simp;omega) _ rfl ?_;intro g5 p5 w5 hown5 hg5 hat5 hlt5)|fail)
     have hb5:Below wo.heap.size wo w5:=QaT HBq.out HO.out HBq.out.size hg5;have HO5:=Lh hown5;have HB5:=Lh hb5;have c5:=HCE.out w5 hb5;clear hb5 hown5 hg5 hat5 hlt5 c0 HCE;go_wp2_with fail;go_roundw;(case rel=>exact⟨f',en,dn++[en],rfl,by have:=HEA.out;omega,Lh (by have:=HEA.out;have:=HF.out;omega),HNX,Lh (by have:=HEA.out;have:=HDL.out;simp;omega),Lh (by have:=HO5.out;rw[qM] at this;rw[List.map_append];exact this),HB5⟩);case measure=>(have hx1:=HEA.out;simp[intOf];omega)
    ·have hai:¬(a:Int)<(ws.length:Int):=by omega
     have HFN:Hid (QcC ws m=dn):=Lh (by
      have e:chainE ((bestL ws m ws.length).map (·.2)) ws.length f a=[]:=by
       cases f with
       |zero=>rfl
       |succ f=>rw[chainE,if_neg hlt]
      rw[HEN.out,e,List.append_nil])
     have HBz:=Lh (HBw.out.trans (HBq.out.mono HBw.out.size));have HOz:=Lh (HO.out.re HBw.out.size);go_wp2_with fail;go_ret2;exact⟨_,rfl,by rw[HFN.out];exact HOz.out,HBz.out⟩
  ·obtain⟨i,rfl⟩:∃i,i1=i+1:=⟨i1-1,by omega⟩;have hi0:(0:Int)≤(i:Int):=(by omega);have hi5:(i:Int)<500:=(by have:=HIK.out;omega);have hi6:(i:Int)<(ws.length:Int):=(by have:=HIK.out;omega);have hii:((i+1:Nat):Int)-1=(i:Int):=(by omega);rw[hii];clear hii hz;have HIN:Hid (i+1+k=ws.length):=HIK;have HC0:Hid (IRow wr Cb 3 (rowC ws m k i 0)):=Lh (by unfold rowC;rw[←row_open];exact HCR.out);have HE0:Hid (IRow wr Eb 3 (rowE ws m k i 0)):=Lh (by unfold rowE;rw[←row_open];exact HER.out);clear HIK HCR HER;have c0:wr.cell? ⟨Cb,i,none⟩=some (.int .i64 0):=HC0.out.cell i (row_at _ _ _);have f0:=HC0.out.fz i;have HC1:Hid (IRow (wr.setCell ⟨Cb,i,none⟩ (.int .i64 (-1))) Cb 3 (rowC ws m k i (curR 0 (0,0)))):=Lh (by have:=HC0.out.set i (-1);rwa [show rowC ws m k i 0=List.replicate i 0++0::(bestL ws m k).map (·.1) from rfl,row_set] at this);have HE1:Hid (IRow (wr.setCell ⟨Cb,i,none⟩ (.int .i64 (-1))) Eb 3 (rowE ws m k i 0)):=Lh (HE0.out.other (Ne.symm HNE.out.1) i (.int .i64 (-1)));have HB1:Hid (Below w.heap.size w (wr.setCell ⟨Cb,i,none⟩ (.int .i64 (-1)))):=Lh (HBw.out.setCell (p:=⟨Cb,i,none⟩) HNE.out.2.1 _);clear HC0 HE0 HBw;go_wp2_with fail;clear c0 f0;generalize wr.setCell ⟨Cb,i,none⟩ (.int .i64 (-1))=wB at*;go_loopw [11,12] (fun vs vj ww=>∃(d p:Nat) (s:Int) (cur:Int × Nat),vs=.int .i64 s∧vj=.int .i64 ((p:Int)+1)∧Hid (p=i+d∧p≤ws.length)∧s≤2006∧0≤s∧Hid (d=0→s=m+6)∧Hid (scanE ws.length (ws.drop i) (bestL ws m k) (m+6) (i+1) true (0,0)=scanE ws.length (ws.drop p) ((bestL ws m k).drop d) s (p+1) (decide (d=0)) cur)∧Hid (0≤cur.1∧cur.1≤4100000*((k:Int)+1))∧Hid (IRow ww Cb 3 (rowC ws m k i (curR d cur)))∧Hid (IRow ww Eb 3 (rowE ws m k i (cur.2:Int)))∧Hid (Below w.heap.size w ww)) (fun _ vj _=>(ws.length+1-(intOf vj).toNat));(case atStart=>exact⟨0,i,m+6,(0,0),rfl,rfl,Lh (by have:=HIN.out;omega),by omega,by omega,Lh (fun _=>rfl),Lh rfl,Lh (by simp;omega),HC1,HE1,HB1⟩);case round=>
    clear HC1 HE1 HB1;obtain⟨d,p,s,cur,rfl,rfl,HP,hs1,hs2,HD0,HSC,HCB,HCR,HER,HBw⟩:=hrel;by_cases hpl:p<ws.length
    ·have hp0:(0:Int)≤(p:Int):=by omega
     have hpn:(p:Int)<(ws.length:Int):=(by omega);have hpn1:(p:Int)+1≤(ws.length:Int):=(by omega);obtain⟨b,o,rfl,_,hbl,hok,hc⟩:=Qbe (HS.out.to HBw.out) hpl;have hx:=HR.out.w ws[p] (List.getElem_mem hpl);have HDR:Hid (ws.drop p=ws[p]::ws.drop (p+1)):=Lh (List.drop_eq_getElem_cons hpl);obtain⟨x,hxe⟩:∃x,ws[p]=x:=⟨_,rfl⟩;rw[hxe] at hc hx HDR;obtain⟨hx1,hx2⟩:=hx;clear hxe hok hbl;obtain⟨s2,hs2e⟩:∃s2,s-6-x=s2:=⟨_,rfl⟩;have hsa:s2≤2006:=(by omega);have hsb: -500≤s2:=(by omega);have HSE:Hid (s-(x+6)=s2):=Lh (by omega);have HD1:Hid (d=0→0≤s2):=Lh (fun h=>by have:=HD0.out h;omega);go_upto_region 16 with(fail);(try rw[hs2e]);clear hs2e hc;by_cases hneg:s2<0
     ·have hd1:d≠0:=fun h=>by have:=HD1.out h;omega
      have HRES:Hid (scanE ws.length (ws.drop i) (bestL ws m k) (m+6) (i+1) true (0,0)=cur):=Lh (by rw[HSC.out,HDR.out];exact scanE_neg _ _ _ _ _ _ _ _ (by rw[HSE.out];exact hneg));have HCR2:Hid (IRow wr Cb 3 (rowC ws m k i cur.1)):=Lh (by have:=HCR.out;unfold curR at this;rwa [if_neg hd1] at this);clear HCR;go_wp2_with fail;go_roundw;(case rel=>exact⟨k+1,i,by go_num,Lh (by have:=HIN.out;omega),Lh (by rw[←rowC_next HIN.out HRES.out];exact HCR2.out),Lh (by rw[←rowE_next HIN.out HRES.out];exact HER.out),HBw⟩);case measure=>(first|(simp[intOf];done)|(simp[intOf];omega))
     ·have hnn:0≤s2:=by omega
      have HNN:Hid (¬s-(x+6)<0):=Lh (by rw[HSE.out];exact hneg);obtain⟨bd,hbd⟩:∃bd,(bestL ws m k)[d]? =some bd:=by
       have h:=Qbf ws m k;exact⟨_,qG (by have:=HP.out;have:=HIN.out;omega)⟩
      have hbb:=Qdf HR.out k bd (List.mem_of_getElem? hbd);have HHD:=Lh (head_drop _ _ _ hbd)
      have c2:wr.cell? ⟨Cb,p+1,none⟩=some (.int .i64 bd.1):=HCR.out.cell (p+1) (by
       have e:p+1=i+d+1:=(by have:=HP.out.1;omega)
       rw[e,show rowC ws m k i (curR d cur)=List.replicate i 0++curR d cur::(bestL ws m k).map (·.1) from rfl,row_behind,List.getElem?_map,hbd];rfl)
      have hk5:(k:Int)≤500:=(by have:=HIN.out;omega);have hb0:0≤bd.1:=hbb.1;have hb1:bd.1≤2050000000:=(by have:=hbb.2;omega);have hbk:bd.1≤4100000*(k:Int):=hbb.2;obtain⟨cb,hcb⟩:∃x,bd.1=x:=⟨_,rfl⟩;rw[hcb] at c2 hb0 hb1 hbk;have HCBE:=Lh hcb;clear hcb hbd hbb;obtain⟨q,hq⟩:∃q,s2*s2=q:=⟨_,rfl⟩;have hq0:0≤q:=(by rw[←hq];exact Int.mul_nonneg hnn hnn);have hq1:q≤4024036:=(by rw[←hq];exact Int.mul_le_mul hsa hsa hnn (by omega));have HQ:=Lh hq;have hw1:IntKind.i64.wrap (s2*s2)=q:=(by rw[hq];exact IntWalk.i64_in _ (by omega));have hw2:IntKind.i64.wrap (q+cb)=q+cb:=IntWalk.i64_in _ (by omega);clear hq;by_cases hlast:p+1=ws.length
      ·have HRES:Hid (scanE ws.length (ws.drop i) (bestL ws m k) (m+6) (i+1) true (0,0)=(0,ws.length)):=Lh (by rw[HSC.out,HDR.out,hlast];exact scanE_last _ _ _ _ _ _ _ HNN.out);have HRS2:Hid (scanE ws.length (ws.drop i) (bestL ws m k) (m+6) (i+1) true (0,0)=scanE ws.length (ws.drop ws.length) ((bestL ws m k).drop (d+1)) s2 (ws.length+1) (decide (d+1=0)) (0,ws.length)):=Lh (by rw[HRES.out,List.drop_length];rfl);have c3:wr.cell? ⟨Cb,ws.length,none⟩=some (.int .i64 cb):=hlast▸c2;have hl1:(p:Int)+1=(ws.length:Int):=(by omega);by_cases hd0:d=0
       ·subst hd0;have hcc:curR 0 cur= -1:=rfl;rw[hcc] at HCR;clear hcc;have c0:wr.cell? ⟨Cb,i,none⟩=some (.int .i64 (-1)):=HCR.out.cell i (row_at _ _ _);have f0:=HCR.out.fz i;have HE1:Hid (IRow (wr.setCell ⟨Cb,i,none⟩ (.int .i64 (0))) Eb 3 (rowE ws m k i (cur.2:Int))):=Lh (HER.out.other (Ne.symm HNE.out.1) i (.int .i64 (0)));have c1:=HE1.out.cell i (row_at _ _ _);have f1:=HE1.out.fz i;have HC2:Hid (IRow ((wr.setCell ⟨Cb,i,none⟩ (.int .i64 (0))).setCell ⟨Eb,i,none⟩ (.int .i64 (ws.length:Int))) Cb 3 (rowC ws m k i (0))):=Lh (by have:=(HCR.out.set i (0)).other HNE.out.1 i (.int .i64 (ws.length:Int));rwa [show rowC ws m k i (-1)=List.replicate i 0++(-1)::(bestL ws m k).map (·.1) from rfl,row_set] at this);have HE2:Hid (IRow ((wr.setCell ⟨Cb,i,none⟩ (.int .i64 (0))).setCell ⟨Eb,i,none⟩ (.int .i64 (ws.length:Int))) Eb 3 (rowE ws m k i (ws.length:Int))):=Lh (by have:=HE1.out.set i (ws.length:Int);rwa [show rowE ws m k i (cur.2:Int)=List.replicate i 0++(cur.2:Int)::(bestL ws m k).map (fun x=>(x.2:Int)) from rfl,row_set] at this);have HB2:Hid (Below w.heap.size w ((wr.setCell ⟨Cb,i,none⟩ (.int .i64 (0))).setCell ⟨Eb,i,none⟩ (.int .i64 (ws.length:Int)))):=Lh ((HBw.out.setCell (p:=⟨Cb,i,none⟩) HNE.out.2.1 _).setCell (p:=⟨Eb,i,none⟩) HNE.out.2.2 _);clear HE1;go_wp2_with fail;go_roundw;(case rel=>exact⟨0+1,ws.length,s2,(0,ws.length),rfl,by go_num,Lh (by have:=HP.out;omega),hsa,hnn,Lh (fun h=>absurd h (by omega)),Lh (HRS2.out),Lh (by simp only;omega),HC2,HE2,HB2⟩);case measure=>(first|(simp[intOf];done)|(simp[intOf];omega))
       ·have hcc:curR d cur=cur.1:=by unfold curR;rw[if_neg hd0]
        rw[hcc] at HCR;have hc0:¬cur.1<0:=(by have:=HCB.out.1;omega);have hc1:0≤cur.1:=HCB.out.1;clear hcc;have c0:wr.cell? ⟨Cb,i,none⟩=some (.int .i64 (cur.1)):=HCR.out.cell i (row_at _ _ _);have f0:=HCR.out.fz i;have HE1:Hid (IRow (wr.setCell ⟨Cb,i,none⟩ (.int .i64 (0))) Eb 3 (rowE ws m k i (cur.2:Int))):=Lh (HER.out.other (Ne.symm HNE.out.1) i (.int .i64 (0)));have c1:=HE1.out.cell i (row_at _ _ _);have f1:=HE1.out.fz i;have HC2:Hid (IRow ((wr.setCell ⟨Cb,i,none⟩ (.int .i64 (0))).setCell ⟨Eb,i,none⟩ (.int .i64 (ws.length:Int))) Cb 3 (rowC ws m k i (0))):=Lh (by have:=(HCR.out.set i (0)).other HNE.out.1 i (.int .i64 (ws.length:Int));rwa [show rowC ws m k i (cur.1)=List.replicate i 0++(cur.1)::(bestL ws m k).map (·.1) from rfl,row_set] at this);have HE2:Hid (IRow ((wr.setCell ⟨Cb,i,none⟩ (.int .i64 (0))).setCell ⟨Eb,i,none⟩ (.int .i64 (ws.length:Int))) Eb 3 (rowE ws m k i (ws.length:Int))):=Lh (by have:=HE1.out.set i (ws.length:Int);rwa [show rowE ws m k i (cur.2:Int)=List.replicate i 0++(cur.2:Int)::(bestL ws m k).map (fun x=>(x.2:Int)) from rfl,row_set] at this);have HB2:Hid (Below w.heap.size w ((wr.setCell ⟨Cb,i,none⟩ (.int .i64 (0))).setCell ⟨Eb,i,none⟩ (.int .i64 (ws.length:Int)))):=Lh ((HBw.out.setCell (p:=⟨Cb,i,none⟩) HNE.out.2.1 _).setCell (p:=⟨Eb,i,none⟩) HNE.out.2.2 _);clear HE1;go_wp2_with fail;go_roundw;(case rel=>exact⟨d+1,ws.length,s2,(0,ws.length),rfl,by go_num,Lh (by have:=HP.out;omega),hsa,hnn,Lh (fun h=>absurd h (by omega)),Lh (HRS2.out),Lh (by simp only;omega),HC2,HE2,HB2⟩);case measure=>(first|(simp[intOf];done)|(simp[intOf];omega))
      ·have hl1:¬(p:Int)+1=(ws.length:Int):=by omega
       have hl2:((p:Int)+1==(ws.length:Int))=false:=by rw[beq_eq_false_iff_ne];omega
       have HST:Hid (scanE ws.length (ws.drop i) (bestL ws m k) (m+6) (i+1) true (0,0)=scanE ws.length (ws.drop (p+1)) ((bestL ws m k).drop (d+1)) s2 (p+1+1) false (if decide (d=0)=true∨q+cb≤cur.1 then(q+cb,p+1) else cur)):=Lh (by
        rw[HSC.out,HDR.out,scanE_step _ _ _ _ _ _ _ _ HNN.out (by omega),HSE.out,HHD.out,HQ.out,HCBE.out,List.tail_drop])
       by_cases hd0:d=0
       ·subst hd0;have hcc:curR 0 cur= -1:=rfl;rw[hcc] at HCR;clear hcc;have c0:wr.cell? ⟨Cb,i,none⟩=some (.int .i64 (-1)):=HCR.out.cell i (row_at _ _ _);have f0:=HCR.out.fz i;have HE1:Hid (IRow (wr.setCell ⟨Cb,i,none⟩ (.int .i64 (q+cb))) Eb 3 (rowE ws m k i (cur.2:Int))):=Lh (HER.out.other (Ne.symm HNE.out.1) i (.int .i64 (q+cb)));have c1:=HE1.out.cell i (row_at _ _ _);have f1:=HE1.out.fz i;have HC2:Hid (IRow ((wr.setCell ⟨Cb,i,none⟩ (.int .i64 (q+cb))).setCell ⟨Eb,i,none⟩ (.int .i64 ((p:Int)+1))) Cb 3 (rowC ws m k i (q+cb))):=Lh (by have:=(HCR.out.set i (q+cb)).other HNE.out.1 i (.int .i64 ((p:Int)+1));rwa [show rowC ws m k i (-1)=List.replicate i 0++(-1)::(bestL ws m k).map (·.1) from rfl,row_set] at this);have HE2:Hid (IRow ((wr.setCell ⟨Cb,i,none⟩ (.int .i64 (q+cb))).setCell ⟨Eb,i,none⟩ (.int .i64 ((p:Int)+1))) Eb 3 (rowE ws m k i ((p+1:Nat):Int))):=Lh (by have:=HE1.out.set i ((p:Int)+1);rwa [show rowE ws m k i (cur.2:Int)=List.replicate i 0++(cur.2:Int)::(bestL ws m k).map (fun x=>(x.2:Int)) from rfl,row_set] at this);have HB2:Hid (Below w.heap.size w ((wr.setCell ⟨Cb,i,none⟩ (.int .i64 (q+cb))).setCell ⟨Eb,i,none⟩ (.int .i64 ((p:Int)+1)))):=Lh ((HBw.out.setCell (p:=⟨Cb,i,none⟩) HNE.out.2.1 _).setCell (p:=⟨Eb,i,none⟩) HNE.out.2.2 _);clear HE1;go_wp2_with fail;go_roundw;(case rel=>exact⟨0+1,p+1,s2,(q+cb,p+1),rfl,by go_num,Lh (by have:=HP.out;omega),hsa,hnn,Lh (fun h=>absurd h (by omega)),Lh (by rw[HST.out,if_pos (by simp)];rfl),Lh (by simp only;omega),HC2,HE2,HB2⟩);case measure=>(first|(simp[intOf];done)|(simp[intOf];omega))
       ·have hcc:curR d cur=cur.1:=by unfold curR;rw[if_neg hd0]
        rw[hcc] at HCR;have hc0:¬cur.1<0:=(by have:=HCB.out.1;omega);clear hcc;by_cases hle:q+cb≤cur.1
        ·skip;have c0:wr.cell? ⟨Cb,i,none⟩=some (.int .i64 (cur.1)):=HCR.out.cell i (row_at _ _ _);have f0:=HCR.out.fz i;have HE1:Hid (IRow (wr.setCell ⟨Cb,i,none⟩ (.int .i64 (q+cb))) Eb 3 (rowE ws m k i (cur.2:Int))):=Lh (HER.out.other (Ne.symm HNE.out.1) i (.int .i64 (q+cb)));have c1:=HE1.out.cell i (row_at _ _ _);have f1:=HE1.out.fz i;have HC2:Hid (IRow ((wr.setCell ⟨Cb,i,none⟩ (.int .i64 (q+cb))).setCell ⟨Eb,i,none⟩ (.int .i64 ((p:Int)+1))) Cb 3 (rowC ws m k i (q+cb))):=Lh (by have:=(HCR.out.set i (q+cb)).other HNE.out.1 i (.int .i64 ((p:Int)+1));rwa [show rowC ws m k i (cur.1)=List.replicate i 0++(cur.1)::(bestL ws m k).map (·.1) from rfl,row_set] at this);have HE2:Hid (IRow ((wr.setCell ⟨Cb,i,none⟩ (.int .i64 (q+cb))).setCell ⟨Eb,i,none⟩ (.int .i64 ((p:Int)+1))) Eb 3 (rowE ws m k i ((p+1:Nat):Int))):=Lh (by have:=HE1.out.set i ((p:Int)+1);rwa [show rowE ws m k i (cur.2:Int)=List.replicate i 0++(cur.2:Int)::(bestL ws m k).map (fun x=>(x.2:Int)) from rfl,row_set] at this);have HB2:Hid (Below w.heap.size w ((wr.setCell ⟨Cb,i,none⟩ (.int .i64 (q+cb))).setCell ⟨Eb,i,none⟩ (.int .i64 ((p:Int)+1)))):=Lh ((HBw.out.setCell (p:=⟨Cb,i,none⟩) HNE.out.2.1 _).setCell (p:=⟨Eb,i,none⟩) HNE.out.2.2 _);clear HE1;go_wp2_with fail;go_roundw;(case rel=>exact⟨d+1,p+1,s2,(q+cb,p+1),rfl,by go_num,Lh (by have:=HP.out;omega),hsa,hnn,Lh (fun h=>absurd h (by omega)),Lh (by rw[HST.out,if_pos (.inr hle)];rfl),Lh (by simp only;omega),HC2,HE2,HB2⟩);case measure=>(first|(simp[intOf];done)|(simp[intOf];omega))
        ·have c0:wr.cell? ⟨Cb,i,none⟩=some (.int .i64 cur.1):=HCR.out.cell i (row_at _ _ _);have HCR2:Hid (IRow wr Cb 3 (rowC ws m k i (curR (d+1) cur))):=HCR;have HST2:Hid (scanE ws.length (ws.drop i) (bestL ws m k) (m+6) (i+1) true (0,0)=scanE ws.length (ws.drop (p+1)) ((bestL ws m k).drop (d+1)) s2 (p+1+1) (decide (d+1=0)) cur):=Lh (by rw[HST.out,if_neg (by simp[hd0];omega)];rfl);go_wp2_with fail;go_roundw;(case rel=>exact⟨d+1,p+1,s2,cur,rfl,by go_num,Lh (by have:=HP.out;omega),hsa,hnn,Lh (fun h=>absurd h (by omega)),HST2,HCB,HCR2,HER,HBw⟩);case measure=>(first|(simp[intOf];done)|(simp[intOf];omega))
    ·obtain rfl:p=ws.length:=by have:=HP.out;omega
     have hd1:d≠0:=(by have:=HP.out;have:=HIN.out;omega);have HRES:Hid (scanE ws.length (ws.drop i) (bestL ws m k) (m+6) (i+1) true (0,0)=cur):=Lh (by rw[HSC.out,List.drop_length];rfl);have HCR2:Hid (IRow wr Cb 3 (rowC ws m k i cur.1)):=Lh (by have:=HCR.out;unfold curR at this;rwa [if_neg hd1] at this);have hpn1:¬(ws.length:Int)+1≤(ws.length:Int):=(by omega);clear HCR hpl;go_wp2_with fail;go_roundw;(case rel=>exact⟨k+1,i,by go_num,Lh (by have:=HIN.out;omega),Lh (by rw[←rowC_next HIN.out HRES.out];exact HCR2.out),Lh (by rw[←rowE_next HIN.out HRES.out];exact HER.out),HBw⟩);case measure=>(first|(simp[intOf];done)|(simp[intOf];omega))
section
variable {P:Program} {ops:Array Oper} {Q:Exit→Act→World→Prop} {md:Region.Mode} {C:World→Prop} {hs:List Nat} {Rl:World→World→Prop} {Φ:Nat→SPR Rl} {m:Nat}
def kindP (hs:List Nat)(m:Nat)(pre:List Nat)(k:Nat):Nat:=if Nat.beq k m then 2 else if pre.contains k then 3 else if hs.contains k then 1 else 0
def wpRP (P:Program)(md:Region.Mode)(ops:Array Oper)(C:World→Prop)(hs:List Nat){Rl:World→World→Prop}(Φ:Nat→SPR Rl)(m:Nat)(pre:List Nat)(fin:Act→(Nat→World→Prop)→Prop):List Oper→Nat→Act→(Nat→World→Prop)→Prop
 |[],_,a,G=>fin a G
 |o::l,k,a,G=>
  if kindP hs m pre k=2 then fin a G
  else if kindP hs m pre k=3 then wpRP P md ops C hs Φ m pre fin l (k+1) a G
  else if Region.wanted o (yielded ops a.tmps)=true then
   if kindP hs m pre k=1 then Safe P md ops C Φ k o a G∧∀v,Joint C G ((Φ k).p v)→wpRP P md ops C hs Φ m pre fin l (k+1) (a.put o.dst v) (QdG G k ((Φ k).p v))
   else o.quiet P a C (fun a'=>wpRP P md ops C hs Φ m pre fin l (k+1) a' G)
  else wpRP P md ops C hs Φ m pre fin l (k+1) (a.put o.dst undef) G
structure WP (P:Program)(md:Region.Mode)(ops:Array Oper)(C:World→Prop){Rl:World→World→Prop}(hs:List Nat)(Φ:Nat→SPR Rl)(m:Nat)(pre:List Nat)(fin:Act→(Nat→World→Prop)→Prop)(l:List Oper)(k:Nat)(a:Act)(G:Nat→World→Prop):Prop where
 h:wpRP P md ops C hs Φ m pre fin l k a G
end
section
variable {P:Program} {ops:Array Oper} {Q:Exit→Act→World→Prop} {md:Region.Mode} {C:World→Prop} {hs:List Nat} {Rl:World→World→Prop} {Φ:Nat→SPR Rl} {m:Nat} {pre:List Nat} {fin:Act→(Nat→World→Prop)→Prop} {T:Type} {f:T→World} {a:Act} {G:Nat→World→Prop} {o:Oper} {l:List Oper} {k:Nat}
end
theorem QcV {w w':World}{base:Nat}{e:TypeId}{v:Value}{l:List Int}(h:Own w base e v l)(hk:∀g,v.ownBlock=some g→w'.heap[g]? =w.heap[g]?):Own w' base e v l:=by
 obtain⟨xs,hx,ho,hr⟩:=h;refine⟨xs,⟨hx.1,?_⟩,ho,fun i hi=>hr i hi⟩;rcases hx.2 with hn|⟨g,cap,cur,rfl,hb,hg,rest⟩
 ·exact .inl hn
 ·exact .inr ⟨g,cap,cur,rfl,hb,(hk g rfl).trans hg,rest⟩
theorem own_ne {α:Type}[Rep α]{w:World}{B b:Nat}{e e':TypeId}{v:Value}{l:List α}{cs:Array Value}{fr:Nat × Nat}(h:Own w B e v l)(hb:w.heap[b]? =some (.cells cs e' fr))(hne:e≠e'):v.ownBlock≠some b:=by
 obtain⟨xs,hx,_⟩:=h;rcases hx.2 with⟨rfl,_⟩|⟨g,cap,cur,rfl,_,hg,_⟩
 ·simp[Value.ownBlock]
 ·intro he;have:g=b:=(by simpa[Value.ownBlock] using he);subst this;rw[hg] at hb;cases hb;exact hne rfl
theorem cutL_snoc {α:Type}(l:List α){i j:Nat}(h:i≤j)(hj:j<l.length):Qb5 l i (j+1)=Qb5 l i j++[l[j]]:=by
 unfold Qb5;rw[qT hj,List.drop_append_of_le_length (by rw[qK];omega)]
theorem cutL_nil {α:Type}(l:List α)(i:Nat):Qb5 l i i=[]:=by
 unfold Qb5;exact List.drop_of_length_le (by rw[qK];omega)
theorem notesP_one (x:Word):QaG [x]=if x.n≠0 then[x.n-1] else[]:=by
 unfold QaG;by_cases h:x.n=0<;>simp[h]
theorem lit_int {w:World}{b:Nat}{t:TypeId}{x:Int}{S:Nat→Prop}(h:w.heap[b]? =some (.cells #[.int .i64 x] t (0,0)))(hx:I64 x)(hS:S b):Sl w S (some ⟨b,0,none⟩) 1 [x]:=
 Sl.block (l:=[x]) h hS (by simp[maxLen]) (fun i hi=>by
  obtain rfl:i=0:=by simpa using hi
  exact⟨rfl,hx⟩)
def inB (c:Nat)(l:List UInt8):Bool:=l.any fun x=>x.toNat==c
theorem inB_take (s:ByteArray)(c k:Nat)(h:k<s.size):inB c (s.data.toList.take (k+1))=(inB c (s.data.toList.take k)||(s[k].toNat==c)):=by
 have e:s.data.toList.take (k+1)=s.data.toList.take k++[s[k]]:=by
  rw[qT (by simpa using h)];rfl
 unfold inB;rw[e,List.any_append];simp
theorem inB_hit (s:ByteArray)(c k:Nat)(h:k<s.size)(hc:s[k].toNat=c):inB c s.data.toList=true:=by
 unfold inB;rw[List.any_eq_true];exact⟨s[k],by simp[ByteArray.getElem_eq_getElem_data],by simp[hc]⟩
theorem in_any (c:Nat)(_hc:c<256)(s:ByteArray)(hs:s.size≤1000)(w:World):
 Calls Tryz.prog 196 #[.int .u8 (c:Int),.string s] w fun e w'=>e=.returned (.bool (inB c s.data.toList))∧w=w':=by
 go_enter Tryz.func196,Tryz.ntmps196;go_wp2_with fail;go_loop [5] (fun i=>∃k:Nat,k≤s.size∧i=.int .i64 k∧Hid (inB c (s.data.toList.take k)=false)) (fun i=>s.size-(intOf i).toNat);(case atStart=>exact⟨0,Nat.zero_le _,rfl,rfl⟩);case round=>
  obtain⟨k,hk,rfl,hno⟩:=hrel;by_cases hlt:k<s.size
  ·have hkl:(k:Int)<(s.size:Int):=by omega
   have hk0:(0:Int)≤(k:Int):=(by omega);have HI:=Lh (inB_take s c k hlt);have HH:=Lh (inB_hit s c k hlt);by_cases h0:s[k].toNat=c
   ·have E:=Lh (HH.out h0);have hB:((s[k].toNat:Int)==(c:Int))=true:=(by rw[h0];simp);clear h0;go_wp2_with fail;go_ret;exact⟨Qaw E.out.symm,rfl⟩
   ·have E:=Lh (show inB c (s.data.toList.take (k+1))=false by rw[HI.out,hno.out];simp[h0]);have hB:((s[k].toNat:Int)==(c:Int))=false:=(by rw[beq_eq_false_iff_ne];omega);clear h0;go_wp2_with fail;go_round;(case rel=>exact⟨k+1,by omega,by go_num,E.out⟩);case measure=>simp[intOf];omega
  ·have E:=Lh (show inB c s.data.toList=false by rw[←Qec s k (by omega)];exact hno.out);go_wp2_with fail;go_ret;exact⟨Qaw E.out.symm,rfl⟩
def s4:ByteArray:=⟨#[105,106,108,46,44,59,58,33,124,39]⟩
def s6:ByteArray:=⟨#[102,114,116,73,45,47,92,40,41,123,125]⟩
def s12:ByteArray:=⟨#[109,119,77,87,64,37]⟩
def in4 (c:Nat):Bool:=inB c s4.data.toList
def in6 (c:Nat):Bool:=inB c s6.data.toList
def in12 (c:Nat):Bool:=inB c s12.data.toList
theorem in4_any (c:Nat)(hc:c<256)(w:World):Calls Tryz.prog 196 #[.int .u8 (c:Int),.string ⟨#[105,106,108,46,44,59,58,33,124,39]⟩] w fun e w'=>e=.returned (.bool (in4 c))∧w=w':=in_any c hc s4 (by decide) w
theorem in6_any (c:Nat)(hc:c<256)(w:World):Calls Tryz.prog 196 #[.int .u8 (c:Int),.string ⟨#[102,114,116,73,45,47,92,40,41,123,125]⟩] w fun e w'=>e=.returned (.bool (in6 c))∧w=w':=in_any c hc s6 (by decide) w
theorem in12_any (c:Nat)(hc:c<256)(w:World):Calls Tryz.prog 196 #[.int .u8 (c:Int),.string ⟨#[109,119,77,87,64,37]⟩] w fun e w'=>e=.returned (.bool (in12 c))∧w=w':=in_any c hc s12 (by decide) w
def gwQ (c:Nat)(a b d:Bool):Int:=
 if c<33∨126<c∨c=91∨c=93 then 0
 else if a=true∨c=96 then 4
 else if b=true∨c=34 then 6
 else if d=true then 12
 else if(65≤c∧c≤90)∨c=38 then 10
 else 8
theorem gwQ_eq:∀c,c<256→gwQ c (in4 c) (in6 c) (in12 c)=gw c:=by decide +kernel
theorem beq_f {c d:Nat}(h:¬c=d):((c:Int)==(d:Int))=false:=by rw[beq_eq_false_iff_ne];omega
set_option maxRecDepth 100000 in
theorem glyph_any (c:Nat)(hc:c<256)(w:World):
 Calls Tryz.prog 172 #[.int .u8 (c:Int)] w fun e w'=>e=.returned (.int .i64 (gw c))∧w=w':=by
 have HE:=Lh (gwQ_eq c hc);have h4:=Lh (in4_any c hc);have h6:=Lh (in6_any c hc);have h12:=Lh (in12_any c hc);generalize in4 c=a at*;generalize in6 c=b at*;generalize in12 c=d at*;generalize hg:gw c=g at*;clear hg;have hc2:(c:Int)<256:=by omega
 have hc0:(0:Int)≤(c:Int):=by omega
 by_cases hr:c<33∨126<c∨c=91∨c=93
 ·have E:=Lh (show 0=g by rw[←HE.out];unfold gwQ;rw[if_pos hr]);clear h4 h6 h12 HE;by_cases h1:c<33
  ·have h1':(c:Int)<33:=by omega
   go_enter Tryz.func172,Tryz.ntmps172;go_wp2_with fail;go_ret;exact⟨Qad E.out,rfl⟩
  ·have h1':¬(c:Int)<33:=by omega
   by_cases h2:126<c
   ·have h2':(126:Int)<(c:Int):=by omega
    go_enter Tryz.func172,Tryz.ntmps172;go_wp2_with fail;go_ret;exact⟨Qad E.out,rfl⟩
   ·have h2':¬(126:Int)<(c:Int):=by omega
    by_cases h3:c=91
    ·subst h3;go_enter Tryz.func172,Tryz.ntmps172;go_wp2_with fail;go_ret;exact⟨Qad E.out,rfl⟩
    ·obtain rfl:c=93:=by omega
     go_enter Tryz.func172,Tryz.ntmps172;go_wp2_with fail;go_ret;exact⟨Qad E.out,rfl⟩
 ·have E:=Lh (show(if a=true∨c=96 then 4 else if b=true∨c=34 then 6 else if d=true then 12 else if(65≤c∧c≤90)∨c=38 then 10 else 8)=g by rw[←HE.out];unfold gwQ;rw[if_neg hr]);have h1':¬(c:Int)<33:=(by omega);have h2':¬(126:Int)<(c:Int):=(by omega);have h3':((c:Int)==91)=false:=beq_f (c:=c) (d:=91) (by omega);have h4':((c:Int)==93)=false:=beq_f (c:=c) (d:=93) (by omega);clear hr HE;go_enter Tryz.func172,Tryz.ntmps172;go_wp2_with fail;refine(h4.out _).mono ?_;rintro e w' ⟨rfl,rfl⟩;clear h3' h4' h4;by_cases hA:a=true∨c=96
  ·have E2:=Lh (show 4=g by rw[←E.out,if_pos hA]);cases a
   ·obtain rfl:c=96:=by simpa using hA
    clear hA;go_wp2_with fail;go_ret;exact⟨Qad E2.out,rfl⟩
   ·clear hA;go_wp2_with fail;go_ret;exact⟨Qad E2.out,rfl⟩
  ·have E2:=Lh (show(if b=true∨c=34 then 6 else if d=true then 12 else if(65≤c∧c≤90)∨c=38 then 10 else 8)=g by rw[←E.out,if_neg hA]);obtain rfl:a=false:=by cases a<;>simp at hA ⊢
   have h5':((c:Int)==96)=false:=beq_f (c:=c) (d:=96) (by simpa using hA);clear hA E;go_wp2_with fail;refine(h6.out _).mono ?_;rintro e w' ⟨rfl,rfl⟩;clear h5' h6;by_cases hB:b=true∨c=34
   ·have E3:=Lh (show 6=g by rw[←E2.out,if_pos hB]);cases b
    ·obtain rfl:c=34:=by simpa using hB
     clear hB;go_wp2_with fail;go_ret;exact⟨Qad E3.out,rfl⟩
    ·clear hB;go_wp2_with fail;go_ret;exact⟨Qad E3.out,rfl⟩
   ·have E3:=Lh (show(if d=true then 12 else if(65≤c∧c≤90)∨c=38 then 10 else 8)=g by rw[←E2.out,if_neg hB]);obtain rfl:b=false:=by cases b<;>simp at hB ⊢
    have h5':((c:Int)==34)=false:=beq_f (c:=c) (d:=34) (by simpa using hB);clear hB E2;go_wp2_with fail;refine(h12.out _).mono ?_;rintro e w' ⟨rfl,rfl⟩;clear h5' h12;cases d
    ·have E4:=Lh (show(if(65≤c∧c≤90)∨c=38 then 10 else 8)=g by rw[←E3.out];simp);clear E3;by_cases hD:65≤c∧c≤90
     ·have E5:=Lh (show 10=g by rw[←E4.out,if_pos (.inl hD)]);have x1:(65:Int)≤(c:Int):=(by omega);have x2:(c:Int)≤90:=(by omega);clear hD;go_wp2_with fail;go_ret;exact⟨Qad E5.out,rfl⟩
     ·by_cases hF:c=38
      ·have E5:=Lh (show 10=g by rw[←E4.out,if_pos (.inr hF)]);subst hF;go_wp2_with fail;go_ret;exact⟨Qad E5.out,rfl⟩
      ·have E5:=Lh (show 8=g by rw[←E4.out,if_neg (by omega)]);have h5':((c:Int)==38)=false:=beq_f (c:=c) (d:=38) hF;have hD':¬((65:Int)≤(c:Int)∧(c:Int)≤90):=(by omega);clear hF E4 hD;by_cases x1:(65:Int)≤(c:Int)
       ·have x2:¬(c:Int)≤90:=by omega
        clear hD';go_wp2_with fail;go_ret;exact⟨Qad E5.out,rfl⟩
       ·clear hD';go_wp2_with fail;go_ret;exact⟨Qad E5.out,rfl⟩
    ·have E4:=Lh (show 12=g by rw[←E3.out];simp);go_wp2_with fail;go_ret;exact⟨Qad E4.out,rfl⟩
theorem valid_lo (s:ByteArray)(h:s.size<1):QaV s=false:=by
 unfold QaV;rw[decide_eq_false (by omega)];rfl
theorem valid_hi (s:ByteArray)(h:40<s.size):QaV s=false:=by
 unfold QaV;rw[decide_eq_false (by omega)];rfl
theorem valid_mid (s:ByteArray)(h:1≤s.size)(h2:s.size≤40):QaV s=okW s.data.toList:=by
 unfold QaV;rw[decide_eq_true ⟨h,h2⟩];rfl
theorem width_of (s:ByteArray):Qau s=if QaV s then Qc0 s.data.toList else 0:=by
 by_cases h1:s.size<1
 ·rw[valid_lo s h1];have hl:s.data.toList.length=s.size:=(by simp);have:s.data.toList=[]:=List.eq_nil_of_length_eq_zero (by rw[hl];omega);unfold Qau;rw[this];simp[Qc0]
 ·by_cases h2:40<s.size
  ·rw[valid_hi s h2];unfold Qau;rw[if_pos h2];rfl
  ·rw[valid_mid s (by omega) (by omega)];unfold Qau;rw[if_neg h2]
theorem Qc9 (s:ByteArray)(w:World)(hmax:s.size≤9223372036854775807):
 Calls Tryz.prog 171 #[.string s] w fun e w'=>e=.returned (.bool (QaV s))∧w=w':=by
 by_cases h1:s.size<1
 ·have E:=Lh (valid_lo s h1);have h1':(s.size:Int)<1:=(by omega);go_enter Tryz.func171,Tryz.ntmps171;go_wp2_with fail;go_ret;exact⟨Qaw E.out.symm,rfl⟩
 ·by_cases h2:40<s.size
  ·have E:=Lh (valid_hi s h2);have h1':¬(s.size:Int)<1:=(by omega);have h2':(40:Int)<(s.size:Int):=(by omega);go_enter Tryz.func171,Tryz.ntmps171;go_wp2_with fail;go_ret;exact⟨Qaw E.out.symm,rfl⟩
  ·have E:=Lh (valid_mid s (by omega) (by omega));have h1':¬(s.size:Int)<1:=(by omega);have h2':¬(40:Int)<(s.size:Int):=(by omega);have hs:s.size≤40:=(by omega);go_enter Tryz.func171,Tryz.ntmps171;go_wp2_with fail;go_loop [3] (fun i=>∃k:Nat,k≤s.size∧i=.int .i64 k∧Hid (okW (s.data.toList.take k)=true)) (fun i=>s.size-(intOf i).toNat);(case atStart=>exact⟨0,Nat.zero_le _,rfl,rfl⟩);case round=>
    obtain⟨k,hk,rfl,hok⟩:=hrel;by_cases hlt:k<s.size
    ·have hkl:(k:Int)<(s.size:Int):=by omega
     have hk0:(0:Int)≤(k:Int):=(by omega);have HO:=Lh (okW_take s k hlt);have HN:=Lh (okW_not s k hlt);have HG:=Lh (glyph_any s[k].toNat s[k].toNat_lt);go_wp2_with fail;refine(HG.out _).mono ?_;rintro e w' ⟨rfl,rfl⟩;by_cases h0:gw s[k].toNat=0
     ·have E2:=Lh (show QaV s=false by rw[E.out,HN.out h0]);rw[h0];clear h0;go_wp2_with fail;go_ret;exact⟨Qaw E2.out.symm,rfl⟩
     ·have E2:=Lh (show okW (s.data.toList.take (k+1))=true by rw[HO.out,hok.out];simp[h0]);generalize gw s[k].toNat=g at*;have hB:(g==0)=false:=beq_eq_false_iff_ne.2 h0;clear h0;go_wp2_with fail;go_round;(case rel=>exact⟨k+1,by omega,by go_num,E2.out⟩);case measure=>simp[intOf];omega
    ·have E2:=Lh (show QaV s=true by rw[E.out,←Qec s k (by omega)];exact hok.out);go_wp2_with fail;go_ret;exact⟨Qaw E2.out.symm,rfl⟩
theorem rwidth_any (s:ByteArray)(w:World)(hmax:s.size≤9223372036854775807):
 Calls Tryz.prog 122 #[.string s] w fun e w'=>e=.returned (.int .i64 (Qau s))∧w=w':=by
 have HW:=Lh (width_of s);go_enter Tryz.func122,Tryz.ntmps122;go_wp2_with fail;refine(Qc9 s _ hmax).mono ?_;rintro e w' ⟨rfl,rfl⟩;cases hv:QaV s
 ·have E:=Lh (show Qau s=0 by rw[HW.out,hv];rfl);clear hv;go_wp2_with fail;go_ret;exact⟨Qad E.out.symm,rfl⟩
 ·have E:=Lh (show Qau s=Qc0 s.data.toList by rw[HW.out,hv];rfl);have hs:s.size≤40:=by
   by_cases h2:40<s.size
   ·rw[valid_hi s h2] at hv;cases hv
   ·omega
  clear hv;go_wp2_with fail;go_loop [3,4] (fun n i=>∃k:Nat,k≤s.size∧i=.int .i64 k∧n=.int .i64 (Qc0 (s.data.toList.take k))) (fun _ i=>s.size-(intOf i).toNat);(case atStart=>exact⟨0,Nat.zero_le _,rfl,rfl⟩);case round=>
   obtain⟨k,hk,rfl,rfl⟩:=hrel;have hbd:=Qeb (s.data.toList.take k);have hl:(s.data.toList.take k).length≤k:=List.length_take_le _ _;by_cases hlt:k<s.size
   ·have hkl:(k:Int)<(s.size:Int):=by omega
    have hk0:(0:Int)≤(k:Int):=(by omega);have HS:=Lh (sumW_take s k hlt);have hg:=gw_bd s[k].toNat s[k].toNat_lt;have HG:=Lh (glyph_any s[k].toNat s[k].toNat_lt);generalize Qc0 (s.data.toList.take k)=S at*;go_wp2_with fail;refine(HG.out _).mono ?_;rintro e w' ⟨rfl,rfl⟩;generalize gw s[k].toNat=g at*;go_wp2_with fail;go_round;(case rel=>exact⟨k+1,by omega,by go_num,by rw[HS.out]⟩);case measure=>simp[intOf];omega
   ·have E2:=Lh (show Qau s=Qc0 (s.data.toList.take k) by rw[E.out,Qec s k (by omega)]);go_wp2_with fail;go_ret;exact⟨Qad E2.out.symm,rfl⟩
def short (s:ByteArray)(m:Nat):ByteArray:=s.extract 0 (min s.size m)
end Go.Proofs.YtegaapiocihcpaaGreatDoor
namespace Go.Proofs.YtegaapiocihcpaaGreatDoor
open Go.RowKit
set_option maxRecDepth 100000 in
theorem rlines_any (A:Option Addr)(c:Nat)(l:List Word)(first m:Int)(w:World)(hs:Sl w (fun b=>b<w.heap.size) A c l)(hr:Reg (Qae l) m)(hf0:0≤first)(hf1:first≤1000000)(hno:∀x∈l,0≤x.n∧x.n≤1000000):
 Calls Tryz.prog 160 #[.slice A l.length c,.int .i64 first,.int .i64 m] w fun e w'=>∃v,e=.returned v∧Own w' w.heap.size 56 v ((Qc5 l first m).map (Bd.mk:LineP→Bd LineP w.heap.size))∧Below w.heap.size w w':=by
 have hwl:(Qae l).length=l.length:=by unfold Qae;rw[qM]
 have h3:l.length≤500:=by have:=hr.n;omega
 have hlc:l.length≤c:=hs.1;have HS:=Lh hs;have HR:=Lh hr;have HNO:=Lh hno;have HWL:=Lh hwl;clear hs hr hno hwl;go_enter Tryz.func160,Tryz.ntmps160;go_wp2_with fail;go_loopw [7,8] (fun v i wr=>∃j:Nat,j≤l.length∧i=.int .i64 (j:Int)∧Hid (Own wr w.heap.size 3 v ((Qae l).take j))∧Hid (Below w.heap.size w wr)) (fun _ i _=>l.length-(intOf i).toNat);(case atStart=>exact⟨0,Nat.zero_le _,rfl,Lh (Own.nil _ _ _),Lh bR⟩);case round=>
  obtain⟨j,hj,rfl,HO,HB⟩:=hrel;obtain⟨A2,c2,hv2,-⟩:=HO.out.form;subst hv2;by_cases hlt:j<l.length
  ·have hjk:(j:Int)<(l.length:Int):=by omega
   obtain⟨b,o,rfl,-,hbl,hok,e0,-,-,-⟩:=Qbt (HS.out.to HB.out) hlt;have hws:(Qae l).take (j+1)=(Qae l).take j++[Qau l[j].s]:=by
    unfold Qae;rw[qT (by simpa using hlt),List.getElem_map]
   have hxw:=HR.out.w (Qau l[j].s) (List.mem_map.2 ⟨l[j],List.getElem_mem hlt,rfl⟩);obtain⟨x,hx⟩:∃x,l[j]=x:=⟨_,rfl⟩;rw[hx] at e0 hws hxw hok;obtain⟨L,hL⟩:∃L,(Qae l).take j=L:=⟨_,rfl⟩;have hLl:L.length=j:=(by rw[←hL,qK,HWL.out];omega);rw[hL] at HO hws ⊢;have HWS:=Lh hws;have HWW:=Lh (rwidth_any x.s wr hok.1);have HI:Hid (I64 (Qau x.s)):=Lh (by unfold I64;omega);have HLL:=Lh hLl;have HO3:=Lh (HO.out.alloc (.cells #[.int .i64 (Qau x.s)] 3));have HS3:Hid (w.heap.size≤wr.heap.size):=Lh HB.out.size;clear hx hbl hok hws hxw hL hLl
   go_wp2_with (first|(go_at_call 122;refine HWW.out.mono ?_;rintro e w' ⟨rfl,rfl⟩)|(at_builtin;refine Qal (α:=Int) _ rfl (.tmp 22) (.tmp 29) 22 rfl w.heap.size 3 (.int .i64 0) 8 Tryz.underlying22 QaH rfl (by decide) _ L rfl HO3.out wr.heap.size #[.int .i64 (Qau x.s)] (Qau x.s) (0,0) 3 rfl (heap_alloc_new wr _) ⟨rfl,HI.out⟩ (by have:=HLL.out;omega) (by have:=HLL.out;omega) (by have:=HS3.out;simp;omega) _ rfl ?_;intro g5 p5 w5 hown5 hg5 hat5 hlt5;have HON:=Lh hown5;have HBN:=Lh (QaT HB.out HO.out HS3.out hg5);clear hown5 hg5 hat5 hlt5)|fail)
   go_roundw;(case rel=>exact⟨j+1,by omega,by go_num,Lh (by rw[HWS.out];exact HON.out),HBN⟩);case measure=>simp[intOf];omega
  ·have hjl:j=l.length:=by omega
   have htk:(Qae l).take j=Qae l:=List.take_of_length_le (by rw[HWL.out];omega);rw[htk,HWL.out] at HO;rw[htk,HWL.out];have hjk:¬(j:Int)<(l.length:Int):=(by omega);have HSW:Hid (Sl wr (fun b=>b<wr.heap.size) A2 c2 (Qae l)):=Lh (HO.out.slv HWL.out.symm);have HEN:=Lh (rends_any A2 c2 (Qae l) m wr HSW.out HR.out);rw[HWL.out] at HEN;clear htk hjl;go_wp2_with fail;refine HEN.out.mono ?_;rintro e w1 ⟨v1,rfl,ho1,hb1⟩;obtain⟨es,hes⟩:∃es,QcC (Qae l) m=es:=⟨_,rfl⟩;have hok:=endsP_ok HR.out;have hel:=Qd1 HR.out;rw[hes] at hok hel ho1;rw[HWL.out] at hok hel;have HES:=Lh hes;have HOK:=Lh hok;have hel5:es.length≤500:=(by omega);have HB1:=Lh (HB.out.trans (hb1.mono HB.out.size));have HSW1:Hid (Sl w1 (fun b=>b<w1.heap.size) A2 c2 (Qae l)):=Lh (HSW.out.to hb1);have hg1:w.heap.size≤w1.heap.size:=HB1.out.size;obtain⟨A1,c1,rfl,hs1⟩:=ho1.sl;rw[qM];have hec:es.length≤c1:=(by have:=hs1.1;rw[qM] at this;exact this);have HS1:=Lh hs1;have HP0:Hid (Qc5 l first m=[]++Qan l (Qae l) m first 0 es):=Lh (by unfold Qc5;rw[HES.out];rfl);have HG1:=Lh hg1;have hwc:l.length≤c2:=(by have:=HSW1.out.1;rwa [HWL.out] at this);clear hes hok hel ho1 hb1 hs1 HSW HEN HO hg1;clear HB;go_wp2_with fail
   go_loopw [11,12,13] (fun v vf vi wr2=>∃(dn rest:List Nat) (done:List LineP) (fr:Nat),vf=.int .i64 (fr:Int)∧vi=.int .i64 (dn.length:Int)∧Hid (es=dn++rest)∧Hid (done.length=dn.length)∧Hid (Qc5 l first m=done++Qan l (Qae l) m first fr rest)∧fr≤l.length∧Hid (endsOk fr l.length rest)∧ Hid (Own wr2 w1.heap.size 56 v (done.map (Bd.mk:LineP→Bd LineP w1.heap.size)))∧Hid (Below w1.heap.size w1 wr2)) (fun _ _ vi _=>es.length-(intOf vi).toNat)
   (case atStart=>exact⟨[],es,[],0,rfl,rfl,Lh rfl,Lh rfl,HP0,Nat.zero_le _,HOK,Lh (Own.nil _ _ _),Lh bR⟩);case round=>
    clear HP0 HOK;obtain⟨dn,rest,done,fr,rfl,rfl,HE2,HDL,HP,hfr,HOK,HO,HBw⟩:=hrel;have HLN:Hid (es.length=dn.length+rest.length):=Lh (by rw[HE2.out,qA]);cases rest with
    |nil=>
     have hge:¬(dn.length:Int)<(es.length:Int):=(by have:=HLN.out;rw[List.length_nil] at this;omega);go_wp2_with fail;go_ret;refine⟨_,rfl,?_,HB1.out.trans (HBw.out.mono HB1.out.size)⟩;have h1:=HO.out;have h2:=HP.out;rw[Qan,List.append_nil] at h2;rw[←h2] at h1;exact(h1.up HG1.out).bd
    |cons e rest=>
     have hlt:(dn.length:Int)<(es.length:Int):=(by have:=HLN.out;rw[qC] at this;omega);have hn0:(0:Int)≤(dn.length:Int):=(by omega);obtain⟨h1,h2,hok2⟩:=HOK.out;have HOK2:=Lh hok2;obtain⟨b1,o1,hA1,hb1w,-,-,ce⟩:=Qbe HS1.out (k:=dn.length) (by have:=HLN.out;simp at this ⊢;omega)
     have hce:(es.map (fun(n:Nat)=>(n:Int)))[dn.length]'(by have:=HLN.out;simp at this ⊢;omega)=(e:Int):=by
      simp[HE2.out]
     rw[hce] at ce;subst hA1;have HCE:Hid (∀W,Below w1.heap.size w1 W→W.cell? ⟨b1,o1+dn.length,none⟩=some (.int .i64 (e:Int))):=Lh (fun W hW=>(hW.cell (p:=⟨b1,o1+dn.length,none⟩) hb1w).trans ce);have hfe:(fr:Int)<(e:Int):=(by omega);have hfe2:(fr:Int)≤(e:Int):=(by omega);have hel:(e:Int)≤(l.length:Int):=(by omega);have hf0':(0:Int)≤(fr:Int):=(by omega);have hec2:(e:Int)≤(c2:Int):=(by omega);obtain⟨last,hlast⟩:∃last:Bool,decide (rest=[])=last:=⟨_,rfl⟩;have hlq:(((dn.length:Int))==(es.length:Int)-1)=last:=by
      rw[←hlast,Bool.eq_iff_iff,beq_iff_eq,decide_eq_true_iff,HLN.out,qC,←List.length_eq_zero_iff];omega
     have HLA:=Lh hlast;obtain⟨bw,ow,hA2,-⟩:=HSW1.out.2.2 (by rw[HWL.out];omega);subst hA2;have HCL:Hid ((Qb5 (Qae l) fr e).length=e-fr):=Lh (cutL_len _ (by omega) (by rw[HWL.out];omega))
     have HSW2:Hid (Sl w1 (fun b=>b<w1.heap.size) (some ⟨bw,ow+fr,none⟩) (c2-fr) (Qb5 (Qae l) fr e)):=Lh (by
      have hs3:=(HSW1.out.take e (by rw[HWL.out];omega)).drop fr (by rw[qK,HWL.out];omega)
      rw[if_neg (by omega)] at hs3
      unfold Qb5;simpa[Qas,Rep.size] using hs3)
     have HRC:=Lh (HR.out.cut fr e);obtain⟨gp,hgp⟩:∃gp,Qcu (Qb5 (Qae l) fr e) m last=gp:=⟨_,rfl⟩;have HGP:=Lh hgp;have hwf:IntKind.i64.wrap (first+(fr:Int))=first+(fr:Int):=IntWalk.i64_in _ (by omega)
     have hwe:IntKind.i64.wrap (first+(e:Int))=first+(e:Int):=IntWalk.i64_in _ (by omega)
     have HX:Hid (w1.heap.size≤wr.heap.size):=Lh HBw.out.size;have HWF:=Lh hwf;have HWE:=Lh hwe;have hcf:¬c2=fr:=(by omega);clear hgp hb1w ce hce hok2 h1 h2 hlast hwf hwe;go_upto_region 12 with(fail);refine Qac [22,24] (fun i=>if i=22 then SP.own wr.heap.size 3 gp else if i=24 then SP.box wr.heap.size #[.int .i64 0,.int .i64 0,.slice none 0 0,.slice none 0 0] 56 else SP.any) 25 (by kernel_rfl) (by kernel_rfl) ?_;intro T _ g hg hgm;have ce:∀d,(g d).cell? ⟨b1,o1+dn.length,none⟩=some (.int .i64 (e:Int)):=fun d=>HCE.out _ (HBw.out.trans ((hg d).mono HX.out))
     have hwf:=HWF.out;have hwe:=HWE.out;(repeat(refine Qab (by rfl) fun Kq hq=>?_;go_big_quiet_step (fail);refine wpQuiet_nil (hq _ ?_);clear hq Kq));refine Qah (by rfl) (by rfl) (fun d hG K Q hK=>?_) (fun v d hG hp Kr hr=>?_)
     ·have hc:=rgaps_any (some ⟨bw,ow+fr,none⟩) (c2-fr) (Qb5 (Qae l) fr e) m last (g d) ((HSW2.out.to HBw.out).to (hg d)) HRC.out;rw[HCL.out] at hc;go_simp;go_at_call 192;refine(hc).mono ?_;rintro e W1 ⟨v3,rfl,ho3,hb1⟩;go_simp;exact hK _ _ hb1 (show Own _ _ _ _ gp by rw[←HGP.out];exact ho3.re (hg d).size)
     obtain⟨A3,c3,rfl,-⟩:=(show Own (g d) wr.heap.size 3 v gp from hp).form;(try clear hp);clear hG;go_frame;refine hr _ ?_;clear hr Kr;(repeat(refine Qab (by rfl) fun Kq hq=>?_;go_big_quiet_step (fail);refine wpQuiet_nil (hq _ ?_);clear hq Kq));refine Qah (by rfl) (by rfl) (fun d hG K Q hK=>?_) (fun v d hG hp Kr hr=>?_)
     ·go_simp;exact hK _ _ (bR.alloc nL _) ⟨_,rfl,(hg d).size,by simp,heap_alloc_new _ _⟩
     obtain⟨O,rfl,hO,-⟩:=(show ∃b,v=.pointer (some ⟨b,0,none⟩)∧wr.heap.size≤b∧_ from hp);have HOW:=Lh hO;clear hO;(try clear hp);clear hG;go_frame;refine hr _ ?_;clear hr Kr;refine QaB 1 (by rfl) (by rfl) (fun d hG=>?_);have ho3:Own (g d) wr.heap.size 3 (.slice A3 gp.length c3) gp:=hG 22;obtain⟨b',hb',-,hbl,hbh⟩:=(show ∃b,Value.pointer (some ⟨O,0,none⟩)=.pointer (some ⟨b,0,none⟩)∧wr.heap.size≤b∧b<(g d).heap.size∧(g d).heap[b]? =some (.cells #[.int .i64 0,.int .i64 0,.slice none 0 0,.slice none 0 0] 56 (0,0)) from hG 24);cases hb';have HXB:Hid (ABox (g d) O 56 [.int .i64 0,.int .i64 0,.slice none 0 0,.slice none 0 0]):=Lh hbh;have HO3:=Lh ho3;have HNE:=Lh (own_ne ho3 hbh (by decide));have HGD:=Lh (hg d);have HOL:=Lh hbl;clear hG hg hgm ce ho3 hbl hbh hwf hwe;generalize g d=w3 at*;clear g;have x0:=HXB.out.cell 0 rfl;have x1:=(HXB.out.set 0 (.int .i64 (first+(fr:Int)))).cell 1 rfl;have x2:=((HXB.out.set 0 (.int .i64 (first+(fr:Int)))).set 1 (.int .i64 (first+(e:Int)))).cell 2 rfl;have x3:=(((HXB.out.set 0 (.int .i64 (first+(fr:Int)))).set 1 (.int .i64 (first+(e:Int)))).set 2 (.slice A3 gp.length c3)).cell 3 rfl;have y0:=HXB.out.fz 0;have y1:=(HXB.out.set 0 (.int .i64 (first+(fr:Int)))).fz 1;have y2:=((HXB.out.set 0 (.int .i64 (first+(fr:Int)))).set 1 (.int .i64 (first+(e:Int)))).fz 2;have y3:=(((HXB.out.set 0 (.int .i64 (first+(fr:Int)))).set 1 (.int .i64 (first+(e:Int)))).set 2 (.slice A3 gp.length c3)).fz 3;refine Qag (i:=25) (oi:=_) rfl (by kernel_rfl) (by rfl) (fun K hK=>?_);go_simp;refine hK _ _ ?_;clear hK K;(try go_frame);clear x0 x1 x2 x3 y0 y1 y2 y3;refine wpAny_done (by kernel_rfl) ?_ _;unfold Exit.then;have HXC:Hid (ABox ((((w3.setCell ⟨O,0,none⟩ (.int .i64 (first+(fr:Int)))).setCell ⟨O,1,none⟩ (.int .i64 (first+(e:Int)))).setCell ⟨O,2,none⟩ (.slice A3 gp.length c3)).setCell ⟨O,3,none⟩ (.slice none 0 0)) O 56 [.int .i64 (first+(fr:Int)),.int .i64 (first+(e:Int)),.slice A3 gp.length c3,.slice none 0 0]):=Lh ((((HXB.out.set 0 (.int .i64 (first+(fr:Int)))).set 1 (.int .i64 (first+(e:Int)))).set 2 (.slice A3 gp.length c3)).set 3 (.slice none 0 0));have hkk:∀i,i≠O→((((w3.setCell ⟨O,0,none⟩ (.int .i64 (first+(fr:Int)))).setCell ⟨O,1,none⟩ (.int .i64 (first+(e:Int)))).setCell ⟨O,2,none⟩ (.slice A3 gp.length c3)).setCell ⟨O,3,none⟩ (.slice none 0 0)).heap[i]? =w3.heap[i]? :=fun i hi=>(Qaa _ _ _ _ hi).trans ((Qaa _ _ _ _ hi).trans ((Qaa _ _ _ _ hi).trans (Qaa _ _ _ _ hi)))
     have HO4:Hid (Own ((((w3.setCell ⟨O,0,none⟩ (.int .i64 (first+(fr:Int)))).setCell ⟨O,1,none⟩ (.int .i64 (first+(e:Int)))).setCell ⟨O,2,none⟩ (.slice A3 gp.length c3)).setCell ⟨O,3,none⟩ (.slice none 0 0)) wr.heap.size 3 (.slice A3 gp.length c3) gp):=Lh (QcV HO3.out (fun i hi=>hkk i (fun e=>HNE.out (e▸hi))));have HB4:Hid (Below wr.heap.size wr ((((w3.setCell ⟨O,0,none⟩ (.int .i64 (first+(fr:Int)))).setCell ⟨O,1,none⟩ (.int .i64 (first+(e:Int)))).setCell ⟨O,2,none⟩ (.slice A3 gp.length c3)).setCell ⟨O,3,none⟩ (.slice none 0 0))):=Lh ((((HGD.out.setCell (p:=⟨O,0,none⟩) HOW.out _).setCell (p:=⟨O,1,none⟩) HOW.out _).setCell (p:=⟨O,2,none⟩) HOW.out _).setCell (p:=⟨O,3,none⟩) HOW.out _);have hsz:((((w3.setCell ⟨O,0,none⟩ (.int .i64 (first+(fr:Int)))).setCell ⟨O,1,none⟩ (.int .i64 (first+(e:Int)))).setCell ⟨O,2,none⟩ (.slice A3 gp.length c3)).setCell ⟨O,3,none⟩ (.slice none 0 0)).heap.size=w3.heap.size:=(by simp);have HBS:Hid (O<w3.heap.size):=HOL;obtain⟨W4,hW4⟩:∃W4,((((w3.setCell ⟨O,0,none⟩ (.int .i64 (first+(fr:Int)))).setCell ⟨O,1,none⟩ (.int .i64 (first+(e:Int)))).setCell ⟨O,2,none⟩ (.slice A3 gp.length c3)).setCell ⟨O,3,none⟩ (.slice none 0 0))=W4:=⟨_,rfl⟩;rw[hW4] at HXC HO4 HB4 hsz ⊢;obtain⟨N0,hN0⟩:∃N0,w3.heap.size=N0:=⟨_,rfl⟩;rw[hN0] at hsz HBS;have HSZ:=Lh hsz;clear hkk hW4 hN0 hsz HXB HO3 HGD HOL;have HL0:Hid (LBx W4 O N0 56 (.int .i64 (first+(fr:Int))) (.int .i64 (first+(e:Int))) (.slice A3 gp.length c3) (.slice none 0 0) []):=Lh ⟨HXC.out,Own.nil _ _ _,HBS.out,by rw[HSZ.out];exact Nat.le_refl _⟩;have HA0:Hid (Ap N0 O W4 W4):=Lh (Ap.refl _ _ _);clear w3;go_wp2_with fail;obtain⟨wo,rfl⟩:∃wo:World,wo=wr:=⟨_,rfl⟩;go_loopw [15] (fun vi wx=>∃(k:Nat) (v:Value) (N:List Int),vi=.int .i64 (k:Int)∧fr≤k∧k≤e∧Hid (LBx wx O N0 56 (.int .i64 (first+(fr:Int))) (.int .i64 (first+(e:Int))) (.slice A3 gp.length c3) v N)∧Hid (N=QaG (Qb5 l fr k))∧Hid (Ap N0 O W4 wx)) (fun vi _=>e-(intOf vi).toNat);(case atStart=>exact⟨fr,_,[],rfl,Nat.le_refl _,by omega,HL0,Lh (by rw[cutL_nil];rfl),HA0⟩);case round=>
      clear HL0 HA0;obtain⟨k,v,N,rfl,hk0,hk,HL,HNK,HA⟩:=hrel;obtain⟨A4,c4,rfl,-⟩:=HL.out.n.form;have HB5:Hid (Below wo.heap.size wo wr):=Lh (HB4.out.trans (HA.out.below HOW.out (Nat.le_of_lt HBS.out)));have HB6:Hid (Below w1.heap.size w1 wr):=Lh (HBw.out.trans (HB5.out.mono HX.out));have ce:=HCE.out _ HB6.out;by_cases hlt2:k<e
      ·have hki:(k:Int)<(e:Int):=by omega
       have hkl:k<l.length:=(by omega);have hklI:(k:Int)<(l.length:Int):=(by omega);have hkc:(k:Int)<(c:Int):=(by omega);obtain⟨b,o,hbo,-,hbl,-,-,-,-,e3⟩:=Qbt (HS.out.to (HB1.out.trans (HB6.out.mono HB1.out.size))) hkl;subst hbo;have hcs:=cutL_snoc l hk0 hkl;have hxn:=HNO.out _ (List.getElem_mem hkl);obtain⟨x,hx⟩:∃x,l[k]=x:=⟨_,rfl⟩;rw[hx] at e3 hcs hxn;obtain⟨hx0,hx1⟩:=hxn
       have HNN:Hid (N.length≤500):=Lh (by
        rw[HNK.out]
        refine Nat.le_trans (notesP_len _) ?_
        unfold Qb5
        rw[List.length_drop,qK]
        omega)
       have hst:QaG (Qb5 l fr (k+1))=N++(if x.n≠0 then[x.n-1] else[]):=(by rw[hcs,Qb1,notesP_one,←HNK.out]);have HST:=Lh hst;clear hx hcs hst;by_cases h0:x.n=0
       ·have HSN:Hid (QaG (Qb5 l fr (k+1))=N):=Lh (by rw[HST.out,if_neg (by simpa using h0),List.append_nil]);rw[h0] at e3;go_wp2_with fail;go_roundw;(case rel=>exact⟨k+1,_,N,by go_num,by omega,by omega,HL,Lh HSN.out.symm,HA⟩);case measure=>(first|(simp[intOf];done)|(simp[intOf];omega))
       ·have HSN:Hid (QaG (Qb5 l fr (k+1))=N++[x.n-1]):=Lh (by rw[HST.out,if_pos h0]);have h00:(x.n==0)=false:=(by rw[beq_eq_false_iff_ne];exact h0);have HE3:Hid (∀W,Below wr.heap.size wr W→W.cell? ⟨b,o+k*4+3,none⟩=some (.int .i64 x.n)):=Lh (fun W hW=>(hW.cell (p:=⟨b,o+k*4+3,none⟩) hbl).trans e3);have HI:Hid (I64 (x.n-1)):=Lh (by unfold I64;omega);go_upto_region 17 with(fail);rw[show(x.n != 0)=true from bne_iff_ne.2 h0];clear e3 ce h0 h00;refine Qac [8] (fun i=>if i=8 then SP.lit wr.heap.size 1 #[.int .i64 (x.n-1)] 3 else SP.any) 9 (by kernel_rfl) (by kernel_rfl) ?_;intro T _ g hg hgm;have q3:∀d,(g d).cell? ⟨O,3,none⟩=some (.slice A4 N.length c4):=fun d=>(HL.out.o.to (hg d)).cell 3 rfl
        have e3:∀d,(g d).cell? ⟨b,o+k*4+3,none⟩=some (.int .i64 x.n):=fun d=>HE3.out _ (hg d)
        (repeat(refine Qab (by rfl) fun Kq hq=>?_;go_big_quiet_step (fail);refine wpQuiet_nil (hq _ ?_);clear hq Kq));refine Qah (by rfl) (by rfl) (fun d hG K Q hK=>?_) (fun v d hG hp Kr hr=>?_)
        ·go_simp;exact hK _ _ (bR.alloc nL _) ⟨_,rfl,(hg d).size,by simp,heap_alloc_new _ _⟩
        obtain⟨bl,rfl,hbl2,-⟩:=(show ∃b,v=.slice (some ⟨b,0,none⟩) 1 1∧wr.heap.size≤b∧_ from hp);have HBL2:=Lh hbl2;clear hbl2;(try clear hp);clear hG;go_frame;refine hr _ ?_;clear hr Kr;refine QaB 3 (by rfl) (by rfl) (fun d hG=>?_);obtain⟨b',hb',-,hbl3,hbh⟩:=(show ∃b,Value.slice (some ⟨bl,0,none⟩) 1 1=.slice (some ⟨b,0,none⟩) 1 1∧wr.heap.size≤b∧b<(g d).heap.size∧(g d).heap[b]? =some (.cells #[.int .i64 (x.n-1)] 3 (0,0)) from hG 8);cases hb';have HLd:=Lh (HL.out.below (hg d));have HAd:Hid (Ap N0 O W4 (g d)):=Lh (HA.out.trans (Ap.of ((hg d).mono HL.out.sz)));have HSLt:Hid (Sl (g d) (fun b=>wr.heap.size≤b) (some ⟨bl,0,none⟩) 1 [x.n-1]):=Lh (lit_int hbh HI.out HBL2.out);have HLT:=Lh HL.out.n.lt;have HSD:Hid (N0≤(g d).heap.size):=Lh (Nat.le_trans HL.out.sz (hg d).size);clear hG hg hgm q3 e3 hbl3 hbh;generalize g d=w6 at*;clear g;refine Qag (i:=9) (oi:=_) rfl (by kernel_rfl) (by rfl) (fun K hK=>?_);refine Qb8 (α:=Int) _ (.tmp 83) (.tmp 90) 22 rfl N0 3 (.int .i64 0) 8 Tryz.underlying22 QaH rfl (by decide) (.slice A4 N.length c4) N rfl HLd.out.n (some ⟨bl,0,none⟩) 1 1 [x.n-1] rfl rfl (fun b=>wr.heap.size≤b) HSLt.out (fun i hi _ e=>by have:=(HLT.out i e.symm).2;omega) (by have:=HNN.out;omega) (by have:=HNN.out;omega) HSD.out ?_;intro v5 w5 hown5 hg5 hat5;obtain⟨A5,c5,e5,-⟩:=hown5.form;rw[show(N++[x.n-1]).length=N.length+1 by simp] at e5;subst e5;obtain⟨hbx,hl5,ha5⟩:=HLd.out.push hown5 hg5;have q5:=hbx.cell 3 rfl;have qf:=hbx.fz 3;have HL5:=Lh hl5;have HA5:=Lh (HAd.out.trans ha5);refine hK _ _ ?_;clear hK K hown5 hg5 hat5 hbx hl5 ha5;(try simp only[Act.put,sA0]);refine Qag (i:=10) (oi:=_) rfl (by kernel_rfl) (by rfl) (fun K hK=>?_);go_simp;refine hK _ _ ?_;clear hK K;(try go_frame);refine Qag (i:=11) (oi:=_) rfl (by kernel_rfl) (by rfl) (fun K hK=>?_);go_simp;refine hK _ _ ?_;clear hK K;(try go_frame);refine wpAny_done (by kernel_rfl) ?_ _;unfold Exit.then;clear q5 qf;go_wp2_with fail;go_roundw;(case rel=>exact⟨k+1,_,N++[x.n-1],by go_num,by omega,by omega,HL5,Lh HSN.out.symm,HA5⟩);case measure=>(first|(simp[intOf];done)|(simp[intOf];omega))
      ·obtain rfl:k=e:=by omega
       have hki:¬(k:Int)<(k:Int):=(by omega);have HNE2:Hid (N=QaG (Qb5 l fr k)):=HNK;have HOD:=Lh (HO.out.below HB5.out);obtain⟨A9,c9,hv9,-⟩:=HO.out.form;subst hv9;have hGO:Own wr wo.heap.size 3 (.slice A3 gp.length c3) gp:=QcV HO4.out (fun i hi=>HA.out.block i (by have:=(HO4.out.lt i hi).2;rw[HSZ.out] at this;exact this) (fun e=>own_ne HO4.out HXC.out (by decide) (e▸hi)));have hba:Below wr.heap.size wr (wr.alloc (.cells #[.int .i64 (first+(fr:Int)),.int .i64 (first+(k:Int)),.slice A3 gp.length c3,.slice A4 N.length c4] 56)):=bR.alloc nL _;have HWW:Hid (wo.heap.size≤wr.heap.size):=Lh HB5.out.size;have HOA:=Lh (HOD.out.alloc (.cells #[.int .i64 (first+(fr:Int)),.int .i64 (first+(k:Int)),.slice A3 gp.length c3,.slice A4 N.length c4] 56));have HLT:Hid (∀q,(Value.slice A9 (done.map (Bd.mk:LineP→Bd LineP w1.heap.size)).length c9).ownBlock=some q→w1.heap.size≤q∧q<wo.heap.size):=Lh HO.out.lt;have HON:Hid (O<N0):=HBS
       have hre:Rep.R (wr.alloc (.cells #[.int .i64 (first+(fr:Int)),.int .i64 (first+(k:Int)),.slice A3 gp.length c3,.slice A4 N.length c4] 56)) (fun b=>some b≠(Value.slice A9 (done.map (Bd.mk:LineP→Bd LineP w1.heap.size)).length c9).ownBlock) [.int .i64 (first+(fr:Int)),.int .i64 (first+(k:Int)),.slice A3 gp.length c3,.slice A4 N.length c4] (Bd.mk (B:=w1.heap.size) (⟨first+(fr:Int),first+(k:Int),gp,N⟩:LineP)):=
        ⟨_,_,rfl,QaZ (hGO.below hba) rfl (fun b hb=>⟨fun e=>by have:=(HLT.out b e.symm).2;omega,by have:=HX.out;omega⟩),QaZ (HL.out.n.below hba) rfl (fun b hb=>⟨fun e=>by have:=(HLT.out b e.symm).2;have:=HOW.out;have:=HON.out;omega,by have:=HX.out;have:=HOW.out;have:=HON.out;omega⟩)⟩
       have HRE:=Lh hre;have r0:=HL.out.o.cell 0 rfl;have r1:=HL.out.o.cell 1 rfl;have r2:=HL.out.o.cell 2 rfl;have r3:=HL.out.o.cell 3 rfl;have hdl:(done.map (Bd.mk:LineP→Bd LineP w1.heap.size)).length≤500:=(by rw[qM,HDL.out];omega);have HDB:=Lh hdl;have HX6:Hid (w1.heap.size≤wr.heap.size):=Lh HB6.out.size;have HCE2:Hid (∀W,Below w1.heap.size w1 W→W.cell? ⟨b1,o1+dn.length,none⟩=some (.int .i64 (k:Int))):=HCE
       have HPX:Hid (Qc5 l first m=(done++[(⟨first+(fr:Int),first+(k:Int),gp,N⟩:LineP)])++Qan l (Qae l) m first k rest):=Lh (by
        rw[HP.out,Qan,HLA.out,HGP.out,←HNE2.out,List.append_assoc];rfl)
       clear hba hre hdl hGO
       go_upto_region 19 with(first|(at_builtin;refine Qal (α:=Bd LineP w1.heap.size) _ rfl (.tmp 93) (.tmp 95) 41 rfl w1.heap.size 56 (.agg #[.int .i64 0,.int .i64 0,.slice none 0 0,.slice none 0 0]) 64 Tryz.underlying41 Qbh rfl (show 0<4 by decide) _ (done.map (Bd.mk:LineP→Bd LineP w1.heap.size)) rfl HOA.out wr.heap.size _ ⟨⟨first+(fr:Int),first+(k:Int),gp,N⟩⟩ (0,0) 56 rfl (heap_alloc_new wr _) HRE.out (by have:=HDB.out;omega) (by have:=HDB.out;omega) (by have:=HX6.out;simp;omega) _ rfl ?_;intro g5 p5 w5 hown5 hg5 hat5 hlt5;have HON5:=Lh hown5;have HBN:=Lh (QaT HB6.out HOD.out HX6.out hg5);clear hown5 hg5 hat5 hlt5)|fail)
       clear r0 r1 r2 r3 ce;have ce:=HCE2.out _ HBN.out;go_wp2_with fail;go_roundw;(case rel=>exact⟨dn++[k],rest,done++[⟨first+(fr:Int),first+(k:Int),gp,N⟩],k,rfl,by rw[qA];go_num,Lh (by rw[HE2.out];simp),Lh (by simp[HDL.out]),HPX,by omega,HOK2,Lh (by have h:=HON5.out;rw[qM] at h;rw[List.map_append];exact h),HBN⟩);case measure=>(have h:=HLN.out;rw[qC] at h;first|(simp[intOf];done)|(simp[intOf];omega))
     end Go.Proofs.YtegaapiocihcpaaGreatDoor
namespace Go.Proofs.YtegaapiocihcpaaGreatDoor
open Go.RowKit
def QbC (x:Word)(next notes:Int):Int:=
 if Qdw x=true then 7 else if x.t≠0∧x.t≠1 then 5 else if x.n≠0∧(x.n≠next∨notes<x.n) then 5 else 0
theorem wordE_bad {x:Word}{a b:Int}(h:Qdw x=true):QbC x a b=7:=by unfold QbC;rw[if_pos h]
theorem wordE_tab {x:Word}{a b:Int}(h:Qdw x=false)(ht:x.t≠0∧x.t≠1):QbC x a b=5:=by unfold QbC;rw[if_neg (by rw[h];simp),if_pos ht]
theorem Qbo {x:Word}{a b:Int}(h:Qdw x=false)(ht:x.t=0∨x.t=1)(hn:x.n≠0∧(x.n≠a∨b<x.n)):QbC x a b=5:=by unfold QbC;rw[if_neg (by rw[h];simp),if_neg (by omega),if_pos hn]
theorem QbL {x:Word}{a b:Int}(h:Qdw x=false)(ht:x.t=0∨x.t=1)(hn:¬(x.n≠0∧(x.n≠a∨b<x.n))):QbC x a b=0:=by unfold QbC;rw[if_neg (by rw[h];simp),if_neg (by omega),if_neg hn]
theorem vword_any (x:Word)(a b:Int)(w:World)(hx:x.ok):
 Calls Tryz.prog 190 #[.agg #[.string x.s,.string x.key,.int .i64 x.t,.int .i64 x.n],.int .i64 a,.int .i64 b] w fun e w'=>e=.returned (.int .i64 (QbC x a b))∧Below w.heap.size w w':=by
 have HB:=Lh ((Below.refl w.heap.size w).alloc nL (.cells #[.string x.s,.string x.key,.int .i64 x.t,.int .i64 x.n] 66));have H1:Hid (x.s.size≤9223372036854775807):=Lh (Nat.le_trans hx.1 (by decide));have H2:Hid (x.key.size≤9223372036854775807):=Lh (Nat.le_trans hx.2.1 (by decide));have hx2:=hx.2.2.1;have hx3:=hx.2.2.2;clear hx;go_enter Tryz.func190,Tryz.ntmps190;go_wp2_with fail;refine(Qc9 x.s _ H1.out).mono ?_;rintro e w' ⟨rfl,rfl⟩;cases hvs:QaV x.s
 ·have E:=Lh (wordE_bad (a:=a) (b:=b) (bad_s hvs));clear hvs;go_wp2_with fail;go_ret;exact⟨Qad E.out.symm,HB.out⟩
 ·have Hvs:=Lh hvs;clear hvs;by_cases hke:x.key=⟨#[]⟩
  ·obtain⟨k1,k2⟩:=key_nil hke;have hgood:=Lh (Qc2 Hvs.out hke);clear hke;by_cases ht0:x.t=0
   ·have ht:Hid (x.t=0∨x.t=1):=Lh (.inl ht0);have hB0:(x.t != 0)=false:=(by rw[ht0];rfl);clear ht0;by_cases hn0:x.n=0
    ·have E:=Lh (QbL (a:=a) (b:=b) hgood.out ht.out (by omega));have hB:(x.n != 0)=false:=(by rw[hn0];rfl);clear hn0;go_wp2_with fail;go_ret;exact⟨Qad E.out.symm,HB.out⟩
    ·have hB:(x.n != 0)=true:=bne_iff_ne.2 hn0;by_cases hna:x.n=a
     ·have hC:(x.n != a)=false:=by rw[hna];simp
      by_cases hnb:b<x.n
      ·have E:=Lh (Qbo (a:=a) (b:=b) hgood.out ht.out ⟨hn0,.inr hnb⟩);clear hn0 hna;go_wp2_with fail;go_ret;exact⟨Qad E.out.symm,HB.out⟩
      ·have E:=Lh (QbL (a:=a) (b:=b) hgood.out ht.out (by omega));clear hn0 hna;go_wp2_with fail;go_ret;exact⟨Qad E.out.symm,HB.out⟩
     ·have hC:(x.n != a)=true:=bne_iff_ne.2 hna;have E:=Lh (Qbo (a:=a) (b:=b) hgood.out ht.out ⟨hn0,.inl hna⟩);clear hn0 hna;go_wp2_with fail;go_ret;exact⟨Qad E.out.symm,HB.out⟩
   ·by_cases ht1:x.t=1
    ·have ht:Hid (x.t=0∨x.t=1):=Lh (.inr ht1);have hB0:(x.t != 0)=true:=bne_iff_ne.2 ht0;have hB1:(x.t != 1)=false:=(by rw[ht1];rfl);clear ht0 ht1;by_cases hn0:x.n=0
     ·have E:=Lh (QbL (a:=a) (b:=b) hgood.out ht.out (by omega));have hB:(x.n != 0)=false:=(by rw[hn0];rfl);clear hn0;go_wp2_with fail;go_ret;exact⟨Qad E.out.symm,HB.out⟩
     ·have hB:(x.n != 0)=true:=bne_iff_ne.2 hn0;by_cases hna:x.n=a
      ·have hC:(x.n != a)=false:=by rw[hna];simp
       by_cases hnb:b<x.n
       ·have E:=Lh (Qbo (a:=a) (b:=b) hgood.out ht.out ⟨hn0,.inr hnb⟩);clear hn0 hna;go_wp2_with fail;go_ret;exact⟨Qad E.out.symm,HB.out⟩
       ·have E:=Lh (QbL (a:=a) (b:=b) hgood.out ht.out (by omega));clear hn0 hna;go_wp2_with fail;go_ret;exact⟨Qad E.out.symm,HB.out⟩
      ·have hC:(x.n != a)=true:=bne_iff_ne.2 hna;have E:=Lh (Qbo (a:=a) (b:=b) hgood.out ht.out ⟨hn0,.inl hna⟩);clear hn0 hna;go_wp2_with fail;go_ret;exact⟨Qad E.out.symm,HB.out⟩
    ·have E:=Lh (wordE_tab (a:=a) (b:=b) hgood.out ⟨ht0,ht1⟩);have hB0:(x.t != 0)=true:=bne_iff_ne.2 ht0;have hB1:(x.t != 1)=true:=bne_iff_ne.2 ht1;clear ht0 ht1;go_wp2_with fail;go_ret;exact⟨Qad E.out.symm,HB.out⟩
  ·obtain⟨k1,k2⟩:=key_some hke;have Hke:=Lh hke;clear hke;go_wp2_with fail;refine(Qc9 x.key _ H2.out).mono ?_;rintro e w' ⟨rfl,rfl⟩;cases hvk:QaV x.key
   ·have E:=Lh (wordE_bad (a:=a) (b:=b) (bad_key Hke.out hvk));clear hvk;go_wp2_with fail;go_ret;exact⟨Qad E.out.symm,HB.out⟩
   ·have hgood:=Lh (good_key Hvs.out hvk);clear hvk;by_cases ht0:x.t=0
    ·have ht:Hid (x.t=0∨x.t=1):=Lh (.inl ht0);have hB0:(x.t != 0)=false:=(by rw[ht0];rfl);clear ht0;by_cases hn0:x.n=0
     ·have E:=Lh (QbL (a:=a) (b:=b) hgood.out ht.out (by omega));have hB:(x.n != 0)=false:=(by rw[hn0];rfl);clear hn0;go_wp2_with fail;go_ret;exact⟨Qad E.out.symm,HB.out⟩
     ·have hB:(x.n != 0)=true:=bne_iff_ne.2 hn0;by_cases hna:x.n=a
      ·have hC:(x.n != a)=false:=by rw[hna];simp
       by_cases hnb:b<x.n
       ·have E:=Lh (Qbo (a:=a) (b:=b) hgood.out ht.out ⟨hn0,.inr hnb⟩);clear hn0 hna;go_wp2_with fail;go_ret;exact⟨Qad E.out.symm,HB.out⟩
       ·have E:=Lh (QbL (a:=a) (b:=b) hgood.out ht.out (by omega));clear hn0 hna;go_wp2_with fail;go_ret;exact⟨Qad E.out.symm,HB.out⟩
      ·have hC:(x.n != a)=true:=bne_iff_ne.2 hna;have E:=Lh (Qbo (a:=a) (b:=b) hgood.out ht.out ⟨hn0,.inl hna⟩);clear hn0 hna;go_wp2_with fail;go_ret;exact⟨Qad E.out.symm,HB.out⟩
    ·by_cases ht1:x.t=1
     ·have ht:Hid (x.t=0∨x.t=1):=Lh (.inr ht1);have hB0:(x.t != 0)=true:=bne_iff_ne.2 ht0;have hB1:(x.t != 1)=false:=(by rw[ht1];rfl);clear ht0 ht1;by_cases hn0:x.n=0
      ·have E:=Lh (QbL (a:=a) (b:=b) hgood.out ht.out (by omega));have hB:(x.n != 0)=false:=(by rw[hn0];rfl);clear hn0;go_wp2_with fail;go_ret;exact⟨Qad E.out.symm,HB.out⟩
      ·have hB:(x.n != 0)=true:=bne_iff_ne.2 hn0;by_cases hna:x.n=a
       ·have hC:(x.n != a)=false:=by rw[hna];simp
        by_cases hnb:b<x.n
        ·have E:=Lh (Qbo (a:=a) (b:=b) hgood.out ht.out ⟨hn0,.inr hnb⟩);clear hn0 hna;go_wp2_with fail;go_ret;exact⟨Qad E.out.symm,HB.out⟩
        ·have E:=Lh (QbL (a:=a) (b:=b) hgood.out ht.out (by omega));clear hn0 hna;go_wp2_with fail;go_ret;exact⟨Qad E.out.symm,HB.out⟩
       ·have hC:(x.n != a)=true:=bne_iff_ne.2 hna;have E:=Lh (Qbo (a:=a) (b:=b) hgood.out ht.out ⟨hn0,.inl hna⟩);clear hn0 hna;go_wp2_with fail;go_ret;exact⟨Qad E.out.symm,HB.out⟩
     ·have E:=Lh (wordE_tab (a:=a) (b:=b) hgood.out ⟨ht0,ht1⟩);have hB0:(x.t != 0)=true:=bne_iff_ne.2 ht0;have hB1:(x.t != 1)=true:=bne_iff_ne.2 ht1;clear ht0 ht1;go_wp2_with fail;go_ret;exact⟨Qad E.out.symm,HB.out⟩
def szE (a b:List (List Word)):Int:=if 100<a.length∨100<b.length∨QaI QbS (a++b)=true then 2 else if QaI Qbi (a++b)=true then 1 else 0
theorem sizes_any (A B:Option Addr)(c d:Nat)(a b:List (List Word))(w:World)(ha:Sl w (fun b=>b<w.heap.size) A c a)(hb:Sl w (fun b=>b<w.heap.size) B d b):
 Calls Tryz.prog 189 #[.agg #[.slice A a.length c,.slice B b.length d]] w fun e w'=>e=.returned (.int .i64 (szE a b))∧Below w.heap.size w w':=by
 have hla:a.length≤9223372036854775807:=by have:=ha.1;have:=ha.2.1;unfold maxLen at this;omega
 have hlb:b.length≤9223372036854775807:=by have:=hb.1;have:=hb.2.1;unfold maxLen at this;omega
 have hb0:=((Below.refl w.heap.size w).alloc nL (.cells #[.slice A a.length c,.slice B b.length d] 36));have HA:=Lh (ha.keep (Kept.all hb0) hb0.size);have HBs:=Lh (hb.keep (Kept.all hb0) hb0.size);have Hb0:=Lh hb0;have HY:Hid (TBox (w.alloc (.cells #[.slice A a.length c,.slice B b.length d] 36)) w.heap.size (.slice A a.length c) (.slice B b.length d)):=Lh ⟨heap_alloc_new w _⟩;have HS:Hid (szE a b=if 100<a.length∨100<b.length∨QaI QbS (a++b)=true then 2 else if QaI Qbi (a++b)=true then 1 else 0):=rfl;generalize szE a b=res at*;clear ha hb hb0;by_cases h1:100<a.length
 ·have E:=Lh (show res=2 by rw[HS.out,if_pos (.inl h1)]);have h1':(100:Int)<(a.length:Int):=(by omega);go_enter Tryz.func189,Tryz.ntmps189;go_wp2_with fail;go_ret;exact⟨Qad E.out.symm,Hb0.out⟩
 ·have h1':¬(100:Int)<(a.length:Int):=by omega
  by_cases h2:100<b.length
  ·have E:=Lh (show res=2 by rw[HS.out,if_pos (.inr (.inl h2))]);have h2':(100:Int)<(b.length:Int):=(by omega);go_enter Tryz.func189,Tryz.ntmps189;go_wp2_with fail;go_ret;exact⟨Qad E.out.symm,Hb0.out⟩
  ·have h2':¬(100:Int)<(b.length:Int):=by omega
   have hz1:w.heap.size<(w.alloc (.cells #[.slice A a.length c,.slice B b.length d] 36)).heap.size:=(by simp);go_enter Tryz.func189,Tryz.ntmps189;have ha100:a.length≤100:=(by omega);have hb100:b.length≤100:=by omega
   go_wp2_with (first|(at_builtin;refine Qat (α:=List Word) _ rfl (.tmp 16) (.tmp 18) 34 rfl (w.heap.size+1) 110 (.slice none 0 0) 24 Tryz.underlying34 Qck rfl (by decide) (.slice none 0 0) [] rfl (Own.nil _ _ _) A c a.length a rfl rfl (fun b=>b<w.heap.size) HA.out (by intro i _ _ e;simp[Value.ownBlock] at e) (by first|omega|(simp;done)|(simp;omega)) (by first|omega|(simp;done)|(simp;omega)) (by simp) ?_;intro v5 w5 hown5' hg5 hat5;have hown5:Own w5 (w.heap.size+1) 110 v5 a:=hown5';have hb5:Below (w.heap.size+1) (w.alloc (.cells #[.slice A a.length c,.slice B b.length d] 36)) w5:=bR.grown hg5 (by simp) (fun g hg=>by simp[Value.ownBlock] at hg);obtain⟨A5,c5,hv5,hv5b,_⟩:=hown5.form;subst hv5;have u0:=(HY.out.kept (hb5.block w.heap.size (by omega))).c0;have u1:=(HY.out.kept (hb5.block w.heap.size (by omega))).c1;have hlt5:=hown5.lt;have hz5:=hb5.size;clear hown5' hg5 hat5)|(at_builtin;refine Qat (α:=List Word) _ rfl (.tmp 20) (.tmp 22) 34 rfl (w.heap.size+1) 110 (.slice none 0 0) 24 Tryz.underlying34 Qck rfl (by decide) (.slice A5 a.length c5) a rfl hown5 B d b.length b rfl rfl (fun b=>b<w.heap.size) (HBs.out.keep (Kept.below hb5 (fun i hi=>Nat.lt_succ_of_lt hi)) hb5.size) (by intro i hi _ e;have:=hlt5 i e.symm;omega) (by omega) (by omega) (by simp at hz5;omega) ?_;intro v6 w6 hown6 hg6 hat6;have hb6:Below (w.heap.size+1) (w.alloc (.cells #[.slice A a.length c,.slice B b.length d] 36)) w6:=hb5.grown hg6 (by simp at hz5;omega) (fun g hg=>(hlt5 g hg).1);obtain⟨A6,c6,hv6,hs6⟩:=hown6.sl;subst hv6;have Hs6:=Lh hs6;have Hb6:=Lh (Hb0.out.trans (hb6.mono (by omega)));have hll:(a++b).length≤200:=(by simp;omega);clear hs6 hg6 hat6 hown6 hb6 hown5 hb5 hlt5;generalize a++b=l at *)|fail)
   clear HA HBs HY;have hcond:Hid (¬(100<a.length∨100<b.length)):=Lh (by omega);go_loopw [4] (fun i wr=>∃k:Nat,k≤l.length∧i=.int .i64 k∧Hid (QaI QbS (l.take k)=false)∧wr=w6) (fun i _=>l.length-(intOf i).toNat);(case atStart=>exact⟨0,Nat.zero_le _,rfl,rfl,rfl⟩);case round=>
    obtain⟨k,hk,rfl,hno,rfl⟩:=hrel;by_cases hlt:k<l.length
    ·obtain⟨b1,o1,Ap,cp,rfl,_,hbl,hc,hp⟩:=Qa7 Hs6.out hlt;have hkl:(k:Int)<(l.length:Int):=(by omega);have hk0:(0:Int)≤(k:Int):=(by omega);have HT:=Lh (QcI QbS l k hlt);have HH:=Lh (Qc7 QbS l k hlt);have h2:l[k].length≤9223372036854775807:=(by have:=hp.1;have:=hp.2.1;unfold maxLen at this;omega);generalize l[k].length=q at*;clear hp;by_cases hq:500<q
     ·have hq':(500:Int)<(q:Int):=by omega
      have E:=Lh (show res=2 by rw[HS.out,if_pos (.inr (.inr (HH.out (by unfold QbS;exact decide_eq_true hq))))]);go_wp2_with fail;go_ret;exact⟨Qad E.out.symm,Hb6.out⟩
     ·have hq':¬(500:Int)<(q:Int):=by omega
      have E:=Lh (show QaI QbS (l.take (k+1))=false by rw[HT.out,hno.out];unfold QbS;rw[decide_eq_false hq];rfl);go_wp2_with fail;go_roundw;(case rel=>exact⟨k+1,by omega,by go_num,E.out,by first|trivial|rfl⟩);case measure=>simp[intOf];omega
    ·have hkl:¬(k:Int)<(l.length:Int):=by omega
     have E1:=Lh (show QaI QbS l=false by have:=hno.out;rwa [List.take_of_length_le (by omega)] at this);go_wp2_with fail;obtain⟨wo,rfl⟩:∃wo:World,wo=wr:=⟨_,rfl⟩;go_loopw [5] (fun i wr=>∃k:Nat,k≤l.length∧i=.int .i64 k∧Hid (QaI Qbi (l.take k)=false)∧wr=wo) (fun i _=>l.length-(intOf i).toNat);(case atStart=>exact⟨0,Nat.zero_le _,rfl,rfl,rfl⟩);case round=>
      clear hk hlt hkl hno;obtain⟨k,hk,rfl,hno,rfl⟩:=hrel;by_cases hlt:k<l.length
      ·obtain⟨b1,o1,Ap,cp,rfl,_,hbl,hc,hp⟩:=Qa7 Hs6.out hlt;have hkl:(k:Int)<(l.length:Int):=(by omega);have hk0:(0:Int)≤(k:Int):=(by omega);have HT:=Lh (QcI Qbi l k hlt);have HH:=Lh (Qc7 Qbi l k hlt);have h2:l[k].length≤9223372036854775807:=(by have:=hp.1;have:=hp.2.1;unfold maxLen at this;omega);generalize l[k].length=q at*;clear hp;by_cases hq:q=0
       ·have E:=Lh (show res=1 by rw[HS.out,if_neg (by rintro(h|h|h);exact hcond.out (.inl h);exact hcond.out (.inr h);rw[E1.out] at h;cases h),if_pos (HH.out (by unfold Qbi;exact decide_eq_true hq))]);subst hq;go_wp2_with fail;go_ret;exact⟨Qad E.out.symm,Hb6.out⟩
       ·have hq':((q:Int)==0)=false:=beq_eq_false_iff_ne.2 (by omega);have hq2:(q==0)=false:=beq_eq_false_iff_ne.2 hq;have E:=Lh (show QaI Qbi (l.take (k+1))=false by rw[HT.out,hno.out];unfold Qbi;rw[decide_eq_false hq];rfl);have hqn:=Lh hq;clear hq;go_wp2_with fail;go_roundw;(case rel=>exact⟨k+1,by omega,by go_num,E.out,by first|trivial|rfl⟩);case measure=>simp[intOf];omega
      ·have hkl:¬(k:Int)<(l.length:Int):=by omega
       have E2:=Lh (show QaI Qbi l=false by have:=hno.out;rwa [List.take_of_length_le (by omega)] at this);have E:=Lh (show res=0 by rw[HS.out,if_neg (by rintro(h|h|h);exact hcond.out (.inl h);exact hcond.out (.inr h);rw[E1.out] at h;cases h),if_neg (by rw[E2.out];simp)]);go_wp2_with fail;go_ret;exact⟨Qad E.out.symm,Hb6.out⟩
theorem chk_sz0 {a b:List (List Word)}(h:szE a b≠0):Qb9 a b=szE a b:=by
 unfold szE at h ⊢;unfold Qb9;split
 ·rfl
 ·split
  ·rfl
  ·rename_i h1 h2;rw[if_neg h1,if_neg h2] at h;exact absurd rfl h
theorem chk_sz1 {a b:List (List Word)}(h:szE a b=0):Qb9 a b=endP b.length (Qa2 a.length b.length 0 0 (a++b)):=by
 unfold szE at h;unfold Qb9;split
 ·rename_i h1;rw[if_pos h1] at h;cases h
 ·rename_i h1;rw[if_neg h1] at h;split
  ·rename_i h2;rw[if_pos h2] at h;cases h
  ·rfl
theorem step_body {np nn i:Nat}{r:Int}{x:Word}(hi:i<np)(h:QbC x (r+1) nn=0):Qbq np nn i r x=(0,if x.n=0 then r else r+1):=by
 unfold QbC at h;unfold Qbq;by_cases h1:Qdw x=true
 ·rw[if_pos h1] at h;cases h
 ·rw[if_neg h1] at h ⊢;by_cases h2:x.t≠0∧x.t≠1
  ·rw[if_pos h2] at h;cases h
  ·rw[if_neg h2] at h ⊢;by_cases h3:x.n=0
   ·rw[if_pos h3,if_pos h3]
   ·rw[if_neg h3,if_neg h3];by_cases h4:x.n≠0∧(x.n≠r+1∨(nn:Int)<x.n)
    ·rw[if_pos h4] at h;cases h
    ·rw[if_neg (by rintro(h|h|h)<;>omega)]
theorem step_berr {np nn i:Nat}{r:Int}{x:Word}(_:i<np)(h:QbC x (r+1) nn≠0):∃n',Qbq np nn i r x=(QbC x (r+1) nn,n'):=by
 unfold QbC at h ⊢;unfold Qbq;by_cases h1:Qdw x=true
 ·rw[if_pos h1,if_pos h1];exact⟨_,rfl⟩
 ·rw[if_neg h1] at h;rw[if_neg h1,if_neg h1];by_cases h2:x.t≠0∧x.t≠1
  ·rw[if_pos h2,if_pos h2];exact⟨_,rfl⟩
  ·rw[if_neg h2] at h;rw[if_neg h2,if_neg h2];by_cases h4:x.n≠0∧(x.n≠r+1∨(nn:Int)<x.n)
   ·rw[if_pos h4,if_neg h4.1,if_pos (by rcases h4.2 with h|h<;>omega)];exact⟨_,rfl⟩
   ·rw[if_neg h4] at h;exact absurd rfl h
theorem step_note0 {np nn i:Nat}{r:Int}{x:Word}(_:np≤i)(h:QbC x 0 0=0):Qbq np nn i r x=(0,r):=by
 unfold QbC at h;unfold Qbq;by_cases h1:Qdw x=true
 ·rw[if_pos h1] at h;cases h
 ·rw[if_neg h1] at h ⊢;by_cases h2:x.t≠0∧x.t≠1
  ·rw[if_pos h2] at h;cases h
  ·rw[if_neg h2] at h ⊢;by_cases h3:x.n=0
   ·rw[if_pos h3]
   ·rw[if_pos ⟨h3,.inl h3⟩] at h;cases h
theorem step_nerr {np nn i:Nat}{r:Int}{x:Word}(hi:np≤i)(h:QbC x 0 0≠0):∃n',Qbq np nn i r x=(QbC x 0 0,n'):=by
 unfold QbC at h ⊢;unfold Qbq;by_cases h1:Qdw x=true
 ·rw[if_pos h1,if_pos h1];exact⟨_,rfl⟩
 ·rw[if_neg h1] at h;rw[if_neg h1,if_neg h1];by_cases h2:x.t≠0∧x.t≠1
  ·rw[if_pos h2,if_pos h2];exact⟨_,rfl⟩
  ·rw[if_neg h2] at h;rw[if_neg h2,if_neg h2];by_cases h4:x.n≠0∧(x.n≠0∨(0:Int)<x.n)
   ·rw[if_pos h4,if_neg h4.1,if_pos (.inl hi)];exact⟨_,rfl⟩
   ·rw[if_neg h4] at h;exact absurd rfl h
theorem wordE_next {x:Word}{r nn:Int}(h:QbC x (r+1) nn=0)(hn:x.n≠0):r+1≤nn:=by
 unfold QbC at h;by_cases h1:Qdw x=true
 ·rw[if_pos h1] at h;cases h
 ·rw[if_neg h1] at h;by_cases h2:x.t≠0∧x.t≠1
  ·rw[if_pos h2] at h;cases h
  ·rw[if_neg h2] at h;by_cases h4:x.n≠0∧(x.n≠r+1∨nn<x.n)
   ·rw[if_pos h4] at h;cases h
   ·omega
theorem endP_err {nn:Nat}{e n:Int}(h:e≠0):endP nn (e,n)=e:=by unfold endP;rw[if_pos h]
theorem endP_ok {nn:Nat}{q:Int}:endP nn (0,q)=if q≠nn then 3 else 0:=by unfold endP;rw[if_neg (by simp)]
set_option maxRecDepth 100000 in
theorem rcheck_any (A B:Option Addr)(c d:Nat)(a b:List (List Word))(w:World)(ha:Sl w (fun b=>b<w.heap.size) A c a)(hb:Sl w (fun b=>b<w.heap.size) B d b)(hla:a.length≤1048576)(hlb:b.length≤1048576):
 Calls Tryz.prog 159 #[.agg #[.slice A a.length c,.slice B b.length d]] w fun e w'=>e=.returned (.int .i64 (Qb9 a b))∧Below w.heap.size w w':=by
 have hb0:=((Below.refl w.heap.size w).alloc nL (.cells #[.slice A a.length c,.slice B b.length d] 36));have HA:=Lh (ha.to hb0);have HBs:=Lh (hb.to hb0);have Hb0:=Lh hb0;have HY:Hid (TBox (w.alloc (.cells #[.slice A a.length c,.slice B b.length d] 36)) w.heap.size (.slice A a.length c) (.slice B b.length d)):=Lh ⟨heap_alloc_new w _⟩;have HZ0:=Lh (chk_sz0 (a:=a) (b:=b));have HZ1:=Lh (chk_sz1 (a:=a) (b:=b));generalize Qb9 a b=res at*;clear ha hb hb0;go_enter Tryz.func159,Tryz.ntmps159;go_wp2_with fail;refine(sizes_any A B c d a b _ HA.out HBs.out).mono ?_;rintro e w1 ⟨rfl,hb1⟩;have Hb1:=Lh (Hb0.out.trans (hb1.mono Hb0.out.size));have HA1:=Lh (HA.out.to hb1);have HB1:=Lh (HBs.out.to hb1);have HY1:=Lh (HY.out.below hb1);clear hb1 HA HBs HY Hb0;by_cases hz:szE a b=0
 ·have HC:=Lh (HZ1.out hz);rw[hz];clear hz HZ0 HZ1;go_wp2_with fail;have hylt:=HY1.out.lt;go_loopw [3,4,5,6] (fun _ n i _ wr=>∃k:Nat,k≤a.length∧i=.int .i64 k∧(∃q:Nat,q≤b.length∧n=.int .i64 ((q:Int)+1)∧Hid (Qa2 a.length b.length 0 0 (a++b)=Qa2 a.length b.length k q ((a++b).drop k)))∧Below w1.heap.size w1 wr) (fun _ _ i _ _=>a.length-(intOf i).toNat);(case atStart=>exact⟨0,Nat.zero_le _,rfl,⟨0,Nat.zero_le _,rfl,rfl⟩,Below.refl _ _⟩);case round=>
   obtain⟨k,hk,rfl,⟨q,hq,rfl,hsc⟩,hb2⟩:=hrel;have Hb2:=Lh hb2;have y0:=(HY1.out.below hb2).c0;have y1:=(HY1.out.below hb2).c1;clear hb2;by_cases hlt:k<a.length
   ·obtain⟨bb,o,Ap,cp,rfl,_,hbl,hc,hp⟩:=Qa7 (HA1.out.to Hb2.out) hlt;have hkl:(k:Int)<(a.length:Int):=(by omega);have hk0:(0:Int)≤(k:Int):=(by omega);have hlab:k<(a++b).length:=(by rw[qA];omega);have hab:(a++b)[k]=a[k]:=List.getElem_append_left hlt;have HPo:=Lh (fun n' h=>scanP_ok (np:=a.length) (nn:=b.length) (notes:=(q:Int)) (n':=n') hlab h);have HPe:=Lh (fun n' e h he=>QdW (np:=a.length) (nn:=b.length) (notes:=(q:Int)) (n':=n') (e:=e) hlab h he);rw[hab] at HPo HPe;have h2:a[k].length≤9223372036854775807:=(by have:=hp.1;have:=hp.2.1;unfold maxLen at this;omega);generalize a[k]=p at*;have Hp:=Lh hp;have HKA:=Lh hlt;clear hp hab hlab;go_wp2_with fail;obtain⟨wo,rfl⟩:∃wo:World,wo=wr:=⟨_,rfl⟩;go_loopw [3,4,6] (fun _ n i wr=>∃j:Nat,j≤p.length∧i=.int .i64 j∧(∃r:Nat,r≤b.length∧n=.int .i64 ((r:Int)+1)∧Hid (QaF a.length b.length k q p=QaF a.length b.length k r (p.drop j)))∧Below wo.heap.size wo wr) (fun _ _ i _=>p.length-(intOf i).toNat);(case atStart=>exact⟨0,Nat.zero_le _,rfl,⟨q,hq,rfl,rfl⟩,Below.refl _ _⟩);case round=>
     clear y0 y1;obtain⟨j,hj,rfl,⟨r,hr,rfl,hsw⟩,hb3⟩:=hrel;have Hb3:=Lh hb3;have hz3:=hb3.size;have y0:=((HY1.out.below Hb2.out).below hb3).c0;have y1:=((HY1.out.below Hb2.out).below hb3).c1;have hyl:=((HY1.out.below Hb2.out).below hb3).lt;have hc3:=(hb3.cell (p:=⟨bb,o+k,none⟩) hbl).trans hc;have hbl3:=World.block_lt_of_cell? wr _ hc3;clear hb3;by_cases hjl:j<p.length
     ·obtain⟨b3,o3,rfl,_,hblw,hok,d0,d1,d2,d3⟩:=Qbt (Hp.out.to Hb3.out) hjl;have hj1:(j:Int)<(p.length:Int):=(by omega);have hj0:(0:Int)≤(j:Int):=(by omega);have HWo:=Lh (fun n' h=>scanW_ok (np:=a.length) (nn:=b.length) (i:=k) (notes:=(r:Int)) (n':=n') hjl h);have HWe:=Lh (fun n' e h he=>QdN (np:=a.length) (nn:=b.length) (i:=k) (notes:=(r:Int)) (n':=n') (e:=e) hjl h he);generalize p[j]=x at*;have HOK:=Lh hok;have HSB:=Lh (fun h=>step_body (np:=a.length) (nn:=b.length) (i:=k) (r:=(r:Int)) (x:=x) HKA.out h);have HSE:=Lh (fun h=>step_berr (np:=a.length) (nn:=b.length) (i:=k) (r:=(r:Int)) (x:=x) HKA.out h);have HNX:=Lh (fun h hn=>wordE_next (x:=x) (r:=(r:Int)) (nn:=(b.length:Int)) h hn);have HV:=Lh (fun W=>vword_any x ((r:Int)+1) (b.length:Int) W HOK.out);generalize QbC x ((r:Int)+1) (b.length:Int)=e at*;clear hok;go_wp2_with fail;refine Qcy (by kernel_rfl) (by kernel_rfl) ?_;intro T hT f hf hg;have a0:∀d,(f d).cell? ⟨w.heap.size,0,none⟩=_:=fun d=>((hf d).cell (p:=⟨w.heap.size,0,none⟩) hyl).trans y0
      have a1:∀d,(f d).cell? ⟨w.heap.size,1,none⟩=_:=fun d=>((hf d).cell (p:=⟨w.heap.size,1,none⟩) hyl).trans y1
      have a2:∀d,(f d).cell? ⟨bb,o+k,none⟩=_:=fun d=>((hf d).cell (p:=⟨bb,o+k,none⟩) hbl3).trans hc3
      have e0:∀d,(f d).cell? ⟨b3,o3+j*4,none⟩=_:=fun d=>((hf d).cell (p:=⟨b3,o3+j*4,none⟩) hblw).trans d0
      have e1:∀d,(f d).cell? ⟨b3,o3+j*4+1,none⟩=_:=fun d=>((hf d).cell (p:=⟨b3,o3+j*4+1,none⟩) hblw).trans d1
      have e2:∀d,(f d).cell? ⟨b3,o3+j*4+2,none⟩=_:=fun d=>((hf d).cell (p:=⟨b3,o3+j*4+2,none⟩) hblw).trans d2
      have e3:∀d,(f d).cell? ⟨b3,o3+j*4+3,none⟩=_:=fun d=>((hf d).cell (p:=⟨b3,o3+j*4+3,none⟩) hblw).trans d3
      have HF5:=Lh hf;have HG5:=Lh hg;clear hf hg
      repeat(go_big_quiet_step (first|(go_at_call 190;refine(HV.out _).mono ?_;rintro e w9 ⟨rfl,hb9⟩;exact⟨rfl,HG5.out _ _ hb9⟩)))
      refine wpQuiet_nil ?_;rintro _ ⟨nq,rfl⟩;have Hd:=Lh (Hb3.out.trans ((HF5.out nq).mono hz3));have f0:=a0 nq;have f2:=a2 nq;have f3:=e3 nq;clear HF5 HG5 a0 a1 a2 e0 e1 e2 e3;generalize f nq=wd at*;by_cases he:e=0
      ·have hst:=Lh (HSB.out he);subst he;by_cases hn0:x.n=0
       ·have E2:=Lh (show QaF a.length b.length k q p=QaF a.length b.length k (r:Int) (p.drop (j+1)) by rw[hsw.out];exact HWo.out _ (by rw[hst.out,if_pos hn0]));have hB:(x.n != 0)=false:=(by rw[hn0];rfl);clear hn0;go_wp2_with fail;go_roundw;(case rel=>exact⟨j+1,by omega,by go_num,⟨r,hr,by go_num,E2.out⟩,Hd.out⟩);case measure=>simp[intOf];omega
       ·have E2:=Lh (show QaF a.length b.length k q p=QaF a.length b.length k ((r+1:Nat):Int) (p.drop (j+1)) by rw[hsw.out];exact HWo.out _ (by rw[hst.out,if_neg hn0];rfl));have hB:(x.n != 0)=true:=bne_iff_ne.2 hn0;have hr1:=HNX.out rfl hn0;clear hn0;go_wp2_with fail;go_roundw;(case rel=>exact⟨j+1,by omega,by go_num,⟨r+1,by omega,by go_num,E2.out⟩,Hd.out⟩);case measure=>simp[intOf];omega
      ·obtain⟨n',hst⟩:=HSE.out he;have E:=Lh (show res=e by rw[HC.out,hsc.out,HPe.out n' e (by rw[hsw.out];exact HWe.out n' e hst he) he,endP_err he]);have hB:(e != 0)=true:=bne_iff_ne.2 he;have Hbe:=Lh (Hb1.out.trans ((Hb2.out.trans (Hd.out.mono Hb2.out.size)).mono Hb1.out.size));clear he hst;go_wp2_with fail;go_ret;exact⟨Qad E.out.symm,Hbe.out⟩
     ·have hj1:¬(j:Int)<(p.length:Int):=by omega
      have E:=Lh (show Qa2 a.length b.length 0 0 (a++b)=Qa2 a.length b.length (k+1) (r:Int) ((a++b).drop (k+1)) by
       rw[hsc.out];exact HPo.out _ (by rw[hsw.out,List.drop_of_length_le (by omega)];rfl))
      have Hb4:=Lh (Hb2.out.trans (Hb3.out.mono Hb2.out.size));go_wp2_with fail;go_roundw;(case rel=>exact⟨k+1,by have:=HKA.out;omega,by go_num,⟨r,hr,by go_num,E.out⟩,Hb4.out⟩);case measure=>simp[intOf];omega
   ·have hkl:¬(k:Int)<(a.length:Int):=by omega
    obtain rfl:k=a.length:=by omega
    go_wp2_with fail;obtain⟨w2,rfl⟩:∃w2:World,w2=wr:=⟨_,rfl⟩;go_loopw [3,7,8] (fun _ i _ wr=>∃k:Nat,k≤b.length∧i=.int .i64 k∧Hid (Qa2 a.length b.length 0 0 (a++b)=Qa2 a.length b.length (a.length+k) q ((a++b).drop (a.length+k)))∧Below w2.heap.size w2 wr) (fun _ i _ _=>b.length-(intOf i).toNat);(case atStart=>exact⟨0,Nat.zero_le _,rfl,hsc,Below.refl _ _⟩);case round=>
     clear hsc hkl hlt hk y0 y1;obtain⟨k,hk,rfl,hsc,hb2'⟩:=hrel;have Hb2':=Lh (Hb2.out.trans (hb2'.mono Hb2.out.size));have Hbr:=Lh hb2';have y0:=(HY1.out.below Hb2'.out).c0;have y1:=(HY1.out.below Hb2'.out).c1;clear hb2';by_cases hlt:k<b.length
     ·obtain⟨bb,o,Ap,cp,rfl,_,hbl,hc,hp⟩:=Qa7 (HB1.out.to Hb2'.out) hlt;have hkl:(k:Int)<(b.length:Int):=(by omega);have hk0:(0:Int)≤(k:Int):=(by omega);have hlab:a.length+k<(a++b).length:=(by rw[qA];omega);have hab:(a++b)[a.length+k]=b[k]:=(by rw[List.getElem_append_right (by omega)];congr 1;omega);have HPo:=Lh (fun n' h=>scanP_ok (np:=a.length) (nn:=b.length) (notes:=(q:Int)) (n':=n') hlab h);have HPe:=Lh (fun n' e h he=>QdW (np:=a.length) (nn:=b.length) (notes:=(q:Int)) (n':=n') (e:=e) hlab h he);rw[hab] at HPo HPe;have h2:b[k].length≤9223372036854775807:=(by have:=hp.1;have:=hp.2.1;unfold maxLen at this;omega);generalize b[k]=p at*;have Hp:=Lh hp;clear hp hab hlab;go_wp2_with fail;obtain⟨wo,rfl⟩:∃wo:World,wo=wr:=⟨_,rfl⟩;go_loopw [3,8] (fun _ i wr=>∃j:Nat,j≤p.length∧i=.int .i64 j∧Hid (QaF a.length b.length (a.length+k) q p=QaF a.length b.length (a.length+k) q (p.drop j))∧Below wo.heap.size wo wr) (fun _ i _=>p.length-(intOf i).toNat);(case atStart=>exact⟨0,Nat.zero_le _,rfl,rfl,Below.refl _ _⟩);case round=>
       clear y0 y1;obtain⟨j,hj,rfl,hsw,hb3⟩:=hrel;have Hb3:=Lh hb3;have hz3:=hb3.size;have y0:=((HY1.out.below Hb2'.out).below hb3).c0;have y1:=((HY1.out.below Hb2'.out).below hb3).c1;have hc3:=(hb3.cell (p:=⟨bb,o+k,none⟩) hbl).trans hc;clear hb3;by_cases hjl:j<p.length
       ·obtain⟨b3,o3,rfl,_,hblw,hok,d0,d1,d2,d3⟩:=Qbt (Hp.out.to Hb3.out) hjl;have hj1:(j:Int)<(p.length:Int):=(by omega);have hj0:(0:Int)≤(j:Int):=(by omega);have HWo:=Lh (fun n' h=>scanW_ok (np:=a.length) (nn:=b.length) (i:=a.length+k) (notes:=(q:Int)) (n':=n') hjl h);have HWe:=Lh (fun n' e h he=>QdN (np:=a.length) (nn:=b.length) (i:=a.length+k) (notes:=(q:Int)) (n':=n') (e:=e) hjl h he);generalize p[j]=x at*;have HOK:=Lh hok;have HSB:=Lh (fun h=>step_note0 (np:=a.length) (nn:=b.length) (i:=a.length+k) (r:=(q:Int)) (x:=x) (Nat.le_add_right _ _) h);have HSE:=Lh (fun h=>step_nerr (np:=a.length) (nn:=b.length) (i:=a.length+k) (r:=(q:Int)) (x:=x) (Nat.le_add_right _ _) h);have HV:=Lh (fun W=>vword_any x 0 0 W HOK.out);generalize QbC x 0 0=e at*;clear hok;go_wp2_with fail;refine(HV.out _).mono ?_;rintro e9 w9 ⟨rfl,hb9⟩;have Hd:=Lh (Hb3.out.trans (hb9.mono hz3));clear hb9;by_cases he:e=0
        ·have hst:=Lh (HSB.out he);subst he;have E2:=Lh (show QaF a.length b.length (a.length+k) q p=QaF a.length b.length (a.length+k) (q:Int) (p.drop (j+1)) by rw[hsw.out];exact HWo.out _ hst.out);go_wp2_with fail;go_roundw;(case rel=>exact⟨j+1,by omega,by go_num,E2.out,Hd.out⟩);case measure=>simp[intOf];omega
        ·obtain⟨n',hst⟩:=HSE.out he;have E:=Lh (show res=e by rw[HC.out,hsc.out,HPe.out n' e (by rw[hsw.out];exact HWe.out n' e hst he) he,endP_err he]);have hB:(e != 0)=true:=bne_iff_ne.2 he;have Hbe:=Lh (Hb1.out.trans ((Hb2'.out.trans (Hd.out.mono Hb2'.out.size)).mono Hb1.out.size));clear he hst;go_wp2_with fail;go_ret;exact⟨Qad E.out.symm,Hbe.out⟩
       ·have hj1:¬(j:Int)<(p.length:Int):=by omega
        have E:=Lh (show Qa2 a.length b.length 0 0 (a++b)=Qa2 a.length b.length (a.length+(k+1)) (q:Int) ((a++b).drop (a.length+(k+1))) by
         rw[hsc.out];exact HPo.out _ (by rw[hsw.out,List.drop_of_length_le (by omega)];rfl))
        have Hb4:=Lh (Hbr.out.trans (Hb3.out.mono Hbr.out.size));go_wp2_with fail;go_roundw;(case rel=>exact⟨k+1,by omega,by go_num,E.out,Hb4.out⟩);case measure=>simp[intOf];omega
     ·have hkl:¬(k:Int)<(b.length:Int):=by omega
      have E:=Lh (show res=if(q:Int)≠b.length then 3 else 0 by
       rw[HC.out,hsc.out,List.drop_of_length_le (by rw[qA];omega),Qa2,endP_ok])
      have Hbe:=Lh (Hb1.out.trans (Hb2'.out.mono Hb1.out.size));by_cases hqb:q=b.length
      ·have E2:=Lh (show res=0 by rw[E.out,if_neg (by simp[hqb])]);subst hqb;go_wp2_with fail;go_ret;exact⟨Qad E2.out.symm,Hbe.out⟩
      ·have E2:=Lh (show res=3 by rw[E.out,if_pos (by omega)]);have hB:((q:Int)+1 != (b.length:Int)+1)=true:=bne_iff_ne.2 (by omega);clear hqb;go_wp2_with fail;go_ret;exact⟨Qad E2.out.symm,Hbe.out⟩
 ·have E:=Lh (HZ0.out hz);have hB:(szE a b != 0)=true:=bne_iff_ne.2 hz;clear hz HZ0 HZ1;generalize szE a b=e at*;go_wp2_with fail;go_ret;exact⟨Qad E.out.symm,Hb1.out⟩
set_option maxRecDepth 100000 in
theorem rLines_any (A B:Option Addr)(c d:Nat)(a b:List (List Word))(m:Int)(w:World)(ha:Sl w (fun b=>b<w.heap.size) A c a)(hb:Sl w (fun b=>b<w.heap.size) B d b)(hla:a.length≤1048576)(hlb:b.length≤1048576):
 Calls Tryz.prog 111 #[.agg #[.slice A a.length c,.slice B b.length d],.int .i64 m] w fun e w'=>∃v u,e=.returned (.tuple #[v,u,.int .i64 (QaP a b m)])∧ (QaP a b m=0→Own w' w.heap.size 56 v ((QaR a m).map (Bd.mk:LineP→Bd LineP w.heap.size))∧Own w' w.heap.size 41 u ((Qam a b m).map (Bd.mk:List LineP→Bd (List LineP) w.heap.size)))∧(QaP a b m≠0→v=.slice none 0 0∧u=.slice none 0 0)∧Below w.heap.size w w':=by
 have HX:Hid (ABox (w.alloc (.cells #[.slice A a.length c,.slice B b.length d] 36)) w.heap.size 36 [.slice A a.length c,.slice B b.length d]):=Lh (heap_alloc_new w _);have hba:Below w.heap.size w (w.alloc (.cells #[.slice A a.length c,.slice B b.length d] 36)):=bR.alloc nL _;have HB0:=Lh hba;have HSA:=Lh (ha.to hba);have HSB:=Lh (hb.to hba);have HSZ:Hid ((w.alloc (.cells #[.slice A a.length c,.slice B b.length d] 36)).heap.size=w.heap.size+1):=Lh (by simp);clear ha hb hba;go_enter Tryz.func111,Tryz.ntmps111;go_upto_region 1 with(fail);generalize hw1:World.alloc w _=w1;have hw2:(w.alloc (.cells #[.slice A a.length c,.slice B b.length d] 36))=w1:=hw1;rw[hw2] at HX HB0 HSA HSB HSZ;clear hw1 hw2;have HC:=Lh (rcheck_any A B c d a b w1 HSA.out HSB.out hla hlb);have q0:=HX.out.cell 0 rfl;have q1:=HX.out.cell 1 rfl;obtain⟨ck,hck⟩:∃ck,Qb9 a b=ck:=⟨_,rfl⟩;rw[hck] at HC;have HCK:=Lh hck;clear hck
 go_upto_region 2 with(first|(go_at_call 159;refine HC.out.mono ?_;rintro e w2 ⟨rfl,hb2⟩)|fail)
 have HX2:=Lh (HX.out.to hb2);have HB2:=Lh (HB0.out.trans (hb2.mono HB0.out.size));have HSA2:=Lh (HSA.out.to hb2);have HSB2:=Lh (HSB.out.to hb2);have HZ2:Hid (w.heap.size+1≤w2.heap.size):=Lh (by have:=HSZ.out;have:=hb2.size;omega);clear HC q0 q1 hb2 HX HB0 HSA HSB HSZ;clear w1;by_cases h0:ck=0
 ·subst h0;by_cases hm:500≤m∧m≤2000
  ·obtain⟨hm1,hm2⟩:=hm;have HLE:Hid (QaP a b m=0):=Lh (by unfold QaP;rw[HCK.out,if_neg (by simp),if_pos ⟨hm1,hm2⟩]);have HFT:=Lh (Qdz HCK.out);have hla1:a.length≤100:=HFT.out.la;have hlb1:b.length≤100:=HFT.out.lb;have q0:=HX2.out.cell 0 rfl;have htb:=HFT.out.tot;rw[QaM] at htb;have HTB:=Lh htb;have HRG:Hid (∀p∈a++b,Reg (Qae p) m):=Lh (fun p hp=>HFT.out.reg hm1 hm2 hp);clear htb;go_wp2_with fail;go_loopw [8,9,10] (fun vb vf vi wr=>∃k:Nat,k≤a.length∧vi=.int .i64 (k:Int)∧vf=.int .i64 ((tot (a.take k):Nat):Int)∧Hid (Own wr w2.heap.size 56 vb ((Qao m 0 (a.take k)).flatten.map (Bd.mk:LineP→Bd LineP w.heap.size)))∧Hid (Below w2.heap.size w2 wr)) (fun _ _ vi _=>a.length-(intOf vi).toNat);(case atStart=>exact⟨0,Nat.zero_le _,rfl,by simp[tot],Lh (Own.nil _ _ _),Lh bR⟩);case round=>
    obtain⟨k,hk,rfl,rfl,HO,HBw⟩:=hrel;obtain⟨A8,c8,rfl,-⟩:=HO.out.form;have HSAw:=Lh (HSA2.out.to HBw.out);have HWL:Hid (w.heap.size≤wr.heap.size):=Lh (by have:=HZ2.out;have:=HBw.out.size;omega);have HBW:Hid (Below w.heap.size w wr):=Lh (HB2.out.trans (HBw.out.mono (by have:=HZ2.out;omega)));by_cases hlt:k<a.length
    ·have hki:(k:Int)<(a.length:Int):=by omega
     have hk0:(0:Int)≤(k:Int):=(by omega);obtain⟨b1,o1,A1,c1,hA1,-,hbl,ce2,hsp2⟩:=Qa7 HSA2.out hlt;subst hA1;have HCE:Hid (∀W,Below w2.heap.size w2 W→W.cell? ⟨b1,o1+k,none⟩=some (.slice A1 a[k].length c1)):=Lh (fun W hW=>(hW.cell (p:=⟨b1,o1+k,none⟩) hbl).trans ce2);have ce:=HCE.out _ HBw.out;have hsp:=hsp2.to HBw.out;have q0:=(HX2.out.to HBw.out).cell 0 rfl;clear ce2 hsp2 hbl;have hmem:a[k]∈a++b:=List.mem_append_left _ (List.getElem_mem hlt);have HRP:=Lh (HRG.out _ hmem);have HWP:=Lh (HFT.out.w _ hmem);have htk:=QcW a k hlt;have htl:=tot_le a (k+1);have HST:=Lh (QdQ m a k hlt);have hpf:=Qbk m (a.take k) 0 (fun p hp=>HRG.out p (List.mem_append_left _ (List.mem_of_mem_take hp)));have hset:=QbH (first:=((tot (a.take k):Nat):Int)) HRP.out;obtain⟨p,hp⟩:∃p,a[k]=p:=⟨_,rfl⟩;rw[hp] at ce hsp HRP HWP htk HST hset HCE;have hpl:p.length≤500:=(by rw[←hp];exact(HFT.out.p _ hmem).2);obtain⟨t,ht⟩:∃t,tot (a.take k)=t:=⟨_,rfl⟩;rw[ht] at htk HST hpf hset ⊢;have ht9:t≤100000:=(by have:=HTB.out;omega);have HSET:=Lh (rlines_any A1 c1 p (t:Int) m wr hsp HRP.out (by omega) (by omega) (fun x hx=>by have:=HWP.out x hx;omega));have HTK:=Lh htk;have HPF:=Lh hpf;have HSL:=Lh hset;obtain⟨pl,hpl'⟩:∃pl,Qc5 p (t:Int) m=pl:=⟨_,rfl⟩;rw[hpl'] at HSET HST HSL;obtain⟨fl,hfl⟩:∃fl,(Qao m 0 (a.take k)).flatten=fl:=⟨_,rfl⟩;have HST2:Hid ((Qao m 0 (a.take (k+1))).flatten=fl++pl):=Lh (by rw[HST.out,List.flatten_append,hfl];simp);rw[hfl] at HO HPF ⊢;rw[qM] at HO;have HLK:=Lh HO.out.lt;have HFL:Hid (fl.length≤100000):=Lh (Nat.le_trans HPF.out (by omega));have HPL:Hid (pl.length≤500):=Lh (Nat.le_trans HSL.out hpl);clear hsp hmem hp htk htl hpf hset ht hpl' hfl HST HRP HWP HSAw
     go_upto_region 12 with(first|(go_at_call 160;refine HSET.out.mono ?_;rintro e w3 ⟨v3,rfl,ho3,hb3⟩;obtain⟨A3,c3,hv3,hs3⟩:=Qbp ho3 nL;subst hv3;have HS3:=Lh (sl_bdS (B:=w.heap.size) hs3 (fun i hi=>Nat.le_trans HWL.out hi.2));have HO3:=Lh (HO.out.below hb3);have HB3:=Lh (HBw.out.trans (hb3.mono HBw.out.size));clear ho3 hb3 hs3 q0 ce)|(at_builtin;refine Qat (α:=Bd LineP w.heap.size) _ rfl (.tmp 31) (.tmp 39) 41 rfl w2.heap.size 56 (.agg #[.int .i64 0,.int .i64 0,.slice none 0 0,.slice none 0 0]) 64 Tryz.underlying41 (line_infoB _) rfl (show 0<4 by omega) (.slice A8 fl.length c8) (fl.map (Bd.mk:LineP→Bd LineP w.heap.size)) rfl HO3.out A3 c3 pl.length (pl.map (Bd.mk:LineP→Bd LineP w.heap.size)) rfl (by rw[qM]) (fun b=>b<w3.heap.size∧wr.heap.size≤b) HS3.out (fun i hi _ e=>by have:=(HLK.out i e.symm).2;omega) (by have:=HFL.out;have:=HPL.out;rw[qM];omega) (by have:=HFL.out;have:=HPL.out;rw[qM];omega) HB3.out.size ?_;intro v4 w4 hown4 hg4 hat4;have HB4:=Lh (QaL HB3.out HO3.out HB3.out.size hg4);have HO4:=Lh hown4;clear hown4 hg4 hat4)|fail)
     rw[←List.map_append] at HO4;have q0:=(HX2.out.to HB4.out).cell 0 rfl;have ce:=HCE.out _ HB4.out;have hw13:IntKind.i64.wrap ((t:Int)+(p.length:Int))=((tot (a.take (k+1)):Nat):Int):=(by rw[IntWalk.i64_in _ (by omega),HTK.out];omega);go_wp2_with fail;go_roundw;(case rel=>exact⟨k+1,by omega,by go_num,rfl,Lh (by rw[HST2.out];exact HO4.out),HB4⟩);case measure=>(first|(simp[intOf];done)|(simp[intOf];omega))
    ·obtain rfl:k=a.length:=by omega
     have q0:=(HX2.out.to HBw.out).cell 0 rfl;have HBO:Hid (Own wr w2.heap.size 56 (.slice A8 ((Qao m 0 (a.take a.length)).flatten.map (Bd.mk:LineP→Bd LineP w.heap.size)).length c8) ((QaR a m).map (Bd.mk:LineP→Bd LineP w.heap.size))):=Lh (by have h:=HO.out;rw[List.take_length] at h ⊢;exact h);have hta:tot (a.take a.length)=tot a:=(by rw[List.take_length]);generalize ((Qao m 0 (a.take a.length)).flatten.map (Bd.mk:LineP→Bd LineP w.heap.size)).length=bl at*;rw[hta];clear HO hta HSAw;have hbw2:=HBw.out;obtain⟨wo,rfl⟩:∃wo:World,wo=wr:=⟨_,rfl⟩;have HXo:=Lh (HX2.out.to HBw.out);have HSBo:Hid (Sl wo (fun b=>b<wo.heap.size) B d b):=Lh (HSB2.out.to HBw.out);clear hbw2;go_wp2_with fail;go_loopw [11,9,12] (fun vn vf vi wr=>∃k:Nat,k≤b.length∧vi=.int .i64 (k:Int)∧vf=.int .i64 (((tot a:Nat):Int)+((tot (b.take k):Nat):Int))∧Hid (Own wr wo.heap.size 41 vn ((Qao m ((tot a:Nat):Int) (b.take k)).map (Bd.mk:List LineP→Bd (List LineP) w.heap.size)))∧Hid (Below wo.heap.size wo wr)) (fun _ _ vi _=>b.length-(intOf vi).toNat);(case atStart=>exact⟨0,Nat.zero_le _,rfl,by simp[tot],Lh (Own.nil _ _ _),Lh bR⟩);case round=>
      obtain⟨k,hk,rfl,rfl,HO,HBv⟩:=hrel;obtain⟨A9,c9,rfl,-⟩:=HO.out.form;have HWL:Hid (w.heap.size≤wr.heap.size):=Lh (by have:=HBW.out.size;have:=HBv.out.size;omega);by_cases hlt:k<b.length
      ·have hki:(k:Int)<(b.length:Int):=by omega
       have hk0:(0:Int)≤(k:Int):=(by omega);obtain⟨b1,o1,A1,c1,hA1,-,hbl,ce2,hsp2⟩:=Qa7 HSBo.out hlt;subst hA1;have HCE:Hid (∀W,Below wo.heap.size wo W→W.cell? ⟨b1,o1+k,none⟩=some (.slice A1 b[k].length c1)):=Lh (fun W hW=>(hW.cell (p:=⟨b1,o1+k,none⟩) hbl).trans ce2);have ce:=HCE.out _ HBv.out;have hsp:=hsp2.to HBv.out;have q1:=(HXo.out.to HBv.out).cell 1 rfl;clear ce2 hsp2 hbl;have hmem:b[k]∈a++b:=List.mem_append_right _ (List.getElem_mem hlt);have HRP:=Lh (HRG.out _ hmem);have HWP:=Lh (HFT.out.w _ hmem);have htk:=QcW b k hlt;have htl:=tot_le b (k+1);have HST:=Lh (Qdi m b k hlt ((tot a:Nat):Int));have hset:=QbH (first:=((tot a:Nat):Int)+((tot (b.take k):Nat):Int)) HRP.out;have HNL:=Lh (QaS m (b.take k) ((tot a:Nat):Int));obtain⟨p,hp⟩:∃p,b[k]=p:=⟨_,rfl⟩;rw[hp] at ce hsp HRP HWP htk HST hset HCE;have hpl:p.length≤500:=(by rw[←hp];exact(HFT.out.p _ hmem).2);obtain⟨t,ht⟩:∃t:Nat,((tot a:Nat):Int)+((tot (b.take k):Nat):Int)=(t:Int):=⟨tot a+tot (b.take k),by omega⟩;rw[ht] at HST hset ⊢;have ht9:t≤100000:=(by have:=HTB.out;omega);have HSET:=Lh (rlines_any A1 c1 p (t:Int) m wr hsp HRP.out (by omega) (by omega) (fun x hx=>by have:=HWP.out x hx;omega));have HSL:=Lh hset;have HPB:Hid ((t:Int)+(p.length:Int)=((tot a:Nat):Int)+((tot (b.take (k+1)):Nat):Int)):=Lh (by omega);obtain⟨pl,hpl'⟩:∃pl,Qc5 p (t:Int) m=pl:=⟨_,rfl⟩;rw[hpl'] at HSET HST HSL;have HPL:Hid (pl.length≤500):=Lh (Nat.le_trans HSL.out hpl);obtain⟨fl,hfl⟩:∃fl,Qao m ((tot a:Nat):Int) (b.take k)=fl:=⟨_,rfl⟩;rw[hfl] at HO HNL HST ⊢;rw[qM] at HO;have HFL:Hid (fl.length≤100):=Lh (by have:=HNL.out;rw[qK] at this;omega);have HLK:=Lh HO.out.lt;clear hsp hmem hp htk htl hset hpl' hfl HRP HWP ht
       go_upto_region 18 with(first|(go_at_call 160;refine HSET.out.mono ?_;rintro e w3 ⟨v3,rfl,ho3,hb3⟩;obtain⟨A3,c3,hv3,hs3⟩:=Qbp ho3 nL;subst hv3;have hbb:=(Below.refl w3.heap.size w3).alloc nL (.cells #[.slice A3 pl.length c3] 41);have HS3:=Lh (hs3.keep (Kept.all hbb) hbb.size);have HO3:=Lh ((HO.out.below hb3).below hbb);have HB3:=Lh (HBv.out.trans ((hb3.trans (hbb.mono hb3.size)).mono HBv.out.size));have HZ3:=Lh hb3.size;clear ho3 hb3 hs3 hbb q1 ce)|(at_builtin;refine Qal (α:=Bd (List LineP) w.heap.size) _ rfl (.tmp 56) (.tmp 65) 81 rfl wo.heap.size 41 (.slice none 0 0) 24 Tryz.underlying81 (lns_info _) rfl (show 0<1 by omega) (.slice A9 fl.length c9) (fl.map (Bd.mk:List LineP→Bd (List LineP) w.heap.size)) rfl HO3.out w3.heap.size #[.slice A3 pl.length c3] ⟨pl⟩ (0,0) 41 rfl (heap_alloc_new w3 _) ⟨A3,c3,rfl,HS3.out.mono (fun i hi hl=>⟨fun e=>by have:=(HLK.out i e.symm).2;have:=HZ3.out;omega,by have:=HWL.out;omega⟩),by have:=HPL.out;show pl.length<_;omega⟩ (by have:=HFL.out;rw[qM];omega) (by have:=HFL.out;rw[qM];omega) HB3.out.size _ rfl ?_;intro g5 p5 w5 hown5 hg5 hat5 hlt5;have HB4:=Lh (QaL HB3.out HO3.out HB3.out.size hg5);have HO4:=Lh hown5;clear hown5 hg5 hat5 hlt5)|fail)
       have hw19:IntKind.i64.wrap ((t:Int)+(p.length:Int))=((tot a:Nat):Int)+((tot (b.take (k+1)):Nat):Int):=(by rw[IntWalk.i64_in _ (by omega),HPB.out]);rw[qM] at HO4;have q1:=(HXo.out.to HB4.out).cell 1 rfl;have ce:=HCE.out _ HB4.out;go_wp2_with fail;go_roundw;(case rel=>exact⟨k+1,by omega,by go_num,rfl,Lh (by rw[HST.out,List.map_append];exact HO4.out),HB4⟩);case measure=>(first|(simp[intOf];done)|(simp[intOf];omega))
      ·obtain rfl:k=b.length:=by omega
       have q1:=(HXo.out.to HBv.out).cell 1 rfl;have HNO:Hid (Own wr wo.heap.size 41 (.slice A9 ((Qao m ((tot a:Nat):Int) (b.take b.length)).map (Bd.mk:List LineP→Bd (List LineP) w.heap.size)).length c9) ((Qam a b m).map (Bd.mk:List LineP→Bd (List LineP) w.heap.size))):=Lh (by have h:=HO.out;rw[List.take_length] at h ⊢;exact h);have HBO2:=Lh (HBO.out.below HBv.out);have HBF:=Lh (HBW.out.trans (HBv.out.mono HBW.out.size));have HW2:Hid (w.heap.size≤w2.heap.size):=Lh (by have:=HZ2.out;omega);have HW3:=Lh HBW.out.size;generalize ((Qao m ((tot a:Nat):Int) (b.take b.length)).map (Bd.mk:List LineP→Bd (List LineP) w.heap.size)).length=nl at*;clear HO;go_wp2_with fail;go_ret3;exact⟨_,_,by rw[HLE.out];rfl,fun _=>⟨HBO2.out.re HW2.out,HNO.out.re HW3.out⟩,fun h=>absurd HLE.out h,HBF.out⟩
  ·have HLE:Hid (QaP a b m=5):=Lh (by unfold QaP;rw[HCK.out,if_neg (by simp),if_neg hm]);by_cases h5:m<500
   ·go_wp2_with fail;go_ret3;exact⟨.slice none 0 0,.slice none 0 0,by rw[HLE.out];rfl,by rw[HLE.out];exact fun h=>absurd h (by decide),fun _=>⟨rfl,rfl⟩,HB2.out⟩
   ·have h6:2000<m:=by omega
    go_wp2_with fail;go_ret3;exact⟨.slice none 0 0,.slice none 0 0,by rw[HLE.out];rfl,by rw[HLE.out];exact fun h=>absurd h (by decide),fun _=>⟨rfl,rfl⟩,HB2.out⟩
 ·have HLE:Hid (QaP a b m=ck):=Lh (by unfold QaP;rw[HCK.out,if_pos h0]);have h00:(ck==0)=false:=(by rw[beq_eq_false_iff_ne];exact h0);go_wp2_with fail;go_ret3;exact⟨.slice none 0 0,.slice none 0 0,by rw[HLE.out];rfl,by rw[HLE.out];exact fun h=>absurd h h0,fun _=>⟨rfl,rfl⟩,HB2.out⟩
end Go.Proofs.YtegaapiocihcpaaGreatDoor
