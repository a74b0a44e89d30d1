/- Texts of CbC. -/
import Derived.Test.YtegaapiocihcpaaGreatDoorVZj9
import Derived.RangeFuncNested
import Derived.RangeFuncBound
import Derived.RangeFuncCalls
import Derived.RangeFuncLeaves
import Derived.RangeFuncBox
import Derived.Shelf.Abstract
import Derived.Shelf.RegionOpen
import Derived.OwnWalkIn
import Derived.TacticsInMore
import Derived.LoopNIn
import Derived.LoopIn
set_option maxHeartbeats 16000000
namespace Go.Proofs.YtegaapiocihcpaaGreatDoor
open Go.RowKit
theorem up_own {α:Type}[Rep α]{w:World}{base B:Nat}{e:TypeId}{v:Value}{l:List α}(h:OwnP w base e v l (Up base))(hB:B≤base):OwnP w B e v l (Up B):=
 ⟨(h.mono (Q:=Up B) (fun _ hi _=>Nat.le_trans hB hi)).own.re hB,(h.mono (Q:=Up B) (fun _ hi _=>Nat.le_trans hB hi)).at_⟩
theorem run_copy_zero {P:Program}(w:World)(dT sT ty e:TypeId)(n:Nat)(hu:P.underlying dT=some (.slice e))(hs:(P.info? e).map (·.size)=some n)(ad:Addr)(A:Option Addr)(c:Nat):
 (Builtin.copy_ #[dT,sT] ty #[.slice (some ad) 0 0,.slice A 0 c]).run P w=.ok (goInt 0) w:=by
 cases hq:P.info? e with
 |none=>simp[hq] at hs
 |some i=>
  cases A with
  |none=>simp[Builtin.copy_,run_underlying hu,Builtin.lenOf,sizeOf,typeInfo,hq,Builtin.firstCells,storeCells]
  |some a=>
   have hf:=run_firstCells_some (P:=P) w i.size 0 a 0 c [] (by simp) (fun j u hu=>by simp at hu);simp[Builtin.copy_,run_underlying hu,Builtin.lenOf,sizeOf,typeInfo,hq,hf,storeCells]
set_option maxRecDepth 100000 in
theorem cloned_own (A:Option Addr)(c:Nat)(l:List SectP)(m h:Int)(w:World)(hs:Sl w (fun b=>b<w.heap.size) A c l)(hsh:QbX l):
 Calls Tryz.prog 93 #[.agg #[.int .i64 m,.int .i64 h,.slice A l.length c]] w fun e w'=>∃g rows,e=.returned (.agg #[.int .i64 m,.int .i64 h,.slice (some ⟨g,0,none⟩) l.length l.length])∧w.heap.size≤g∧g<w'.heap.size∧CX w' g rows l l.length∧Below w.heap.size w w':=by
 obtain⟨wb,hwb⟩:∃wb,(w.alloc (.cells #[.int .i64 m,.int .i64 h,.slice A l.length c] 25)).alloc (.cells #[.int .i64 0,.int .i64 0,.slice none 0 0] 25)=wb:=⟨_,rfl⟩;have hba:Below w.heap.size w wb:=by rw[←hwb];exact(bR.alloc nL _).alloc (by simp) _
 have hsz:wb.heap.size=w.heap.size+2:=by rw[←hwb];simp
 have hx0:ABox wb w.heap.size 25 [.int .i64 m,.int .i64 h,.slice A l.length c]:=by rw[←hwb];exact(Below.heap_alloc _ _ _ (by simp)).trans (heap_alloc_new w _)
 have hx1:ABox wb (w.heap.size+1) 25 [.int .i64 0,.int .i64 0,.slice none 0 0]:=by rw[←hwb];exact Qai (by simp)
 have hl63:l.length≤1048576:=hsh.1;obtain⟨wm,hwm⟩:∃wm,wb.alloc (.cells (madeCells #[.int .i64 0,.bool false,.slice none 0 0,.slice none 0 0] (l.length*4)) 74)=wm:=⟨_,rfl⟩;have hbm:Below wb.heap.size wb wm:=by rw[←hwm];exact bR.alloc nL _
 have hgm:wm.heap[wb.heap.size]? =some (.cells (madeCells #[.int .i64 0,.bool false,.slice none 0 0,.slice none 0 0] (l.length*4)) 74 (0,0)):=by rw[←hwm];exact heap_alloc_new wb _
 have hzm:wm.heap.size=wb.heap.size+1:=by rw[←hwm];simp
 have HSM:Hid (Sl wm (fun b=>b<wb.heap.size) A c l):=Lh ((hs.to hba).keep (Kept.all hbm) hbm.size);have HX0m:=Lh (hx0.to hbm);have HX1m:=Lh (hx1.to hbm);have c2:wb.cell? ⟨w.heap.size,2,none⟩=some (.slice A l.length c):=hx0.cell 2 rfl;have c2m:wm.cell? ⟨w.heap.size,2,none⟩=some (.slice A l.length c):=HX0m.out.cell 2 rfl;have HSH:=Lh hsh;have HBA:=Lh hba;have HBM:Hid (Below w.heap.size w wm):=Lh (hba.trans (hbm.mono hba.size));have HGM:=Lh hgm;have HZM:=Lh hzm;have HSZ:=Lh hsz;clear hba hx0 hx1 hs hsh hbm hgm hzm hsz;go_enter Tryz.func93,Tryz.ntmps93;go_upto_region 1 with(fail);(try rw[hwb]);have HWB:=Lh hwb;clear hwb
 go_upto_region 2 with(first|(refine Qbq rfl 23 (.tmp 11) (.tmp 11) rfl 74 (.agg #[.int .i64 0,.bool false,.slice none 0 0,.slice none 0 0]) 4 64 Tryz.underlying23 Qe2 l.length rfl rfl (by omega) (by omega) ?_)|fail)
 (try rw[hwm]);have HWM:=Lh hwm;clear hwm;by_cases hl0:l.length=0
 ·obtain rfl:l=[]:=List.eq_nil_of_length_eq_zero hl0;have HOP:Hid (OwnP wm wb.heap.size 74 (.slice (some ⟨wb.heap.size,0,none⟩) 0 0) ([]:List SectP) (Up wb.heap.size)):=Lh ⟨⟨[],⟨by simp,.inr ⟨wb.heap.size,0,_,rfl,Nat.le_refl _,HGM.out,Nat.le_refl _,by simp[maxLen],size_madeCells _ _,by simp⟩⟩,by simp,fun i h=>absurd h (by simp)⟩,fun q hq=>by cases hq;exact Nat.le_refl _⟩;have x2:=HX0m.out.cell 2 rfl;have xf:=HX0m.out.fz 2;have HY0:=Lh (HX0m.out.set 2 (.slice (some ⟨wb.heap.size,0,none⟩) 0 0));have HY1:=Lh (HX1m.out.other (show w.heap.size+1≠w.heap.size by omega) 2 (.slice (some ⟨wb.heap.size,0,none⟩) 0 0));have y0:=HY0.out.cell 0 rfl;have y1:=HY0.out.cell 1 rfl;have y2:=HY0.out.cell 2 rfl;have z0:=HY1.out.cell 0 rfl;have z1:=HY1.out.fz 0;have z2:=(HY1.out.set 0 (.int .i64 m)).cell 1 rfl;have z3:=(HY1.out.set 0 (.int .i64 m)).fz 1;have z4:=((HY1.out.set 0 (.int .i64 m)).set 1 (.int .i64 h)).cell 2 rfl;have z5:=((HY1.out.set 0 (.int .i64 m)).set 1 (.int .i64 h)).fz 2;have HYF:=Lh (((HY1.out.set 0 (.int .i64 m)).set 1 (.int .i64 h)).set 2 (.slice (some ⟨wb.heap.size,0,none⟩) 0 0));have h0:w.heap.size≤w.heap.size+1:=by omega
  have HBF:=Lh ((((HBM.out.setCell (p:=⟨w.heap.size,2,none⟩) nL (.slice (some ⟨wb.heap.size,0,none⟩) 0 0)).setCell (p:=⟨w.heap.size+1,0,none⟩) h0 (.int .i64 m)).setCell (p:=⟨w.heap.size+1,1,none⟩) h0 (.int .i64 h)).setCell (p:=⟨w.heap.size+1,2,none⟩) h0 (.slice (some ⟨wb.heap.size,0,none⟩) 0 0));have hn0:∀i,Up wb.heap.size i→i≠w.heap.size:=fun i (hi:wb.heap.size≤i)=>by have:=HSZ.out;omega
  have hn1:∀i,Up wb.heap.size i→i≠w.heap.size+1:=fun i (hi:wb.heap.size≤i)=>by have:=HSZ.out;omega
  have HOF:=Lh (CX.nil (((((HOP.out.set w.heap.size 2 (.slice (some ⟨wb.heap.size,0,none⟩) 0 0) hn0).set (w.heap.size+1) 0 (.int .i64 m) hn1).set (w.heap.size+1) 1 (.int .i64 h) hn1).set (w.heap.size+1) 2 (.slice (some ⟨wb.heap.size,0,none⟩) 0 0) hn1).own.conv ([]:List SC) rfl rfl (fun i h1=>absurd h1 (Nat.not_lt_zero _))));clear hn0 hn1 h0 HOP;have hcp:=run_copy_zero (P:=Tryz.prog) wm 23 23 3 74 4 Tryz.underlying23 (by kernel_rfl) ⟨wb.heap.size,0,none⟩ A c;go_wp2_with fail;clear hcp;go_loopw [19] (fun vi wr=>vi=.int .i64 0∧wr=wm) (fun _ _=>0);(case atStart=>exact⟨rfl,rfl⟩);case round=>
   obtain⟨rfl,rfl⟩:=hrel;go_wp2_with fail;exact bodyPost_ret (v:=.agg #[.int .i64 m,.int .i64 h,(.slice (some ⟨wb.heap.size,0,none⟩) 0 0)]) (QbW Tryz.results93 _ _ (w.heap.size+1) _ #[.int .i64 m,.int .i64 h,(.slice (some ⟨wb.heap.size,0,none⟩) 0 0)] (0,0) _ rfl HYF.out Tryz.underlying25 rfl (by kernel_rfl)) rfl ⟨_,[],rfl,by have:=HSZ.out;omega,by have:=HZM.out;simp;omega,HOF.out,HBF.out⟩
 ·have HN0:=Lh hl0
  go_upto_region 3 with(first|(refine Qct (α:=Av SectP (fun b=>b<wb.heap.size)) rfl (.tmp 13) (.tmp 15) 23 23 rfl 74 Tryz.underlying23 (by kernel_rfl) wb.heap.size l.length _ A c (l.map Av.mk) (by rw[qM]) rfl rfl ((HSM.out.av (P:=fun b=>b<wb.heap.size) (fun i hi _=>hi)).mono (fun i hi _=>Nat.ne_of_lt hi)) (by omega) HGM.out (size_madeCells _ _) wb.heap.size nL (by unfold maxLen;omega) ?_;intro w2 ho2 hg2)|fail)
  obtain⟨rows,hrl,hro,hrf⟩:=ho2.sc;have HX02:Hid (ABox w2 w.heap.size 25 [.int .i64 m,.int .i64 h,.slice A l.length c]):=Lh ((hg2.block _ HX0m.out.lt (by intro e;injection e with e;have:=HSZ.out;omega)).trans HX0m.out);have HX12:Hid (ABox w2 (w.heap.size+1) 25 [.int .i64 0,.int .i64 0,.slice none 0 0]):=Lh ((hg2.block _ HX1m.out.lt (by intro e;injection e with e;have:=HSZ.out;omega)).trans HX1m.out);have HB2:Hid (Below w.heap.size w w2):=Lh (HBM.out.grown hg2 HBM.out.size (fun k hk=>by cases hk;have:=HSZ.out;omega));have HC0:Hid (CX w2 wb.heap.size rows l 0):=Lh ⟨⟨hro,hrl,fun i h1 h2=>⟨(hrf i h1 h2).1,(hrf i h1 h2).2.1,(hrf i h1 h2).2.2.1,fun h=>absurd h (Nat.not_lt_zero _),fun _=>(hrf i h1 h2).2.2.2⟩⟩,fun i _ _ h=>absurd h (Nat.not_lt_zero _),fun i _ _ h=>absurd h (Nat.not_lt_zero _)⟩;have HGL:Hid (wb.heap.size<w2.heap.size):=Lh (by have:=hg2.size;have:=HZM.out;omega);clear ho2 hg2 hrl hro hrf HGM HX0m HX1m HBM HSM c2m c2;obtain⟨g,hg⟩:∃g,wb.heap.size=g:=⟨_,rfl⟩;rw[hg] at HC0 HGL HSZ ⊢;have HGE:=Lh hg;clear hg hl0;clear HWM HZM;clear wm;go_wp2_with fail;go_loopw [19] (fun vi wr=>∃(k:Nat) (rows:List SC),k≤l.length∧vi=.int .i64 (k:Int)∧Hid (CX wr g rows l k)∧Hid (Below w.heap.size w wr∧g<wr.heap.size)∧Hid (ABox wr w.heap.size 25 [.int .i64 m,.int .i64 h,.slice A l.length c])∧Hid (ABox wr (w.heap.size+1) 25 [.int .i64 0,.int .i64 0,.slice none 0 0])) (fun vi _=>l.length-(intOf vi).toNat);(case atStart=>exact⟨0,rows,Nat.zero_le _,rfl,HC0,Lh ⟨HB2.out,HGL.out⟩,HX02,HX12⟩);case round=>
   clear HC0 HB2 HGL HX02 HX12;clear rows w2;obtain⟨k,rows,hk,rfl,HCS,HB,HX0,HX1⟩:=hrel;have HCS0:=HCS;obtain⟨wo,rfl⟩:∃wo:World,wo=wr:=⟨_,rfl⟩;by_cases hlt:k<l.length
   ·have hkl:(k:Int)<(l.length:Int):=by omega
    have hk0:(0:Int)≤(k:Int):=(by omega);have hkr:k<rows.length:=(by rw[HCS.out.cs.len];exact hlt);obtain⟨r0,r1,r2,r3,hfz⟩:=HCS.out.cs.row hlt hkr;obtain⟨f1,f2,-,-,f3⟩:=HCS.out.cs.f k hkr hlt;obtain⟨⟨Ag,cg,e1,hvS,-⟩,⟨An,cn,e2,htS,-⟩⟩:=f3 (Nat.le_refl k);injection e1 with e1 _
    injection e2 with e2 _
    rw[f1] at r0;rw[f2] at r1;rw[e1] at r2;rw[e2] at r3;have HXS:=Lh (HSH.out.2 l[k] (List.getElem_mem hlt));obtain⟨x,hx⟩:∃x,l[k]=x:=⟨_,rfl⟩;have HXE:=Lh hx;rw[hx] at r0 r1 r2 r3 hvS htS HXS;have HVS:=Lh hvS;have HTS:=Lh htS;clear hfz f1 f2 f3 hvS htS hx e1 e2;have hm9:x.texts.length≤1048576:=HXS.out.2.1;obtain⟨ws,hws⟩:∃ws,wo.alloc (.cells #[.int .i64 x.entry,.bool x.frozen,.slice Ag x.vers.length cg,.slice An x.texts.length cn] 74)=ws:=⟨_,rfl⟩;have hbs:Below wo.heap.size wo ws:=(by rw[←hws];exact bR.alloc nL _);have hys:ABox ws wo.heap.size 74 [.int .i64 x.entry,.bool x.frozen,.slice Ag x.vers.length cg,.slice An x.texts.length cn]:=(by rw[←hws];exact heap_alloc_new wo _);have hzs:ws.heap.size=wo.heap.size+1:=(by rw[←hws];simp);obtain⟨wt,hwt⟩:∃wt,ws.alloc (.cells (madeCells #[.slice none 0 0,.slice none 0 0] (x.texts.length*2)) 36)=wt:=⟨_,rfl⟩;have hbt:Below ws.heap.size ws wt:=by rw[←hwt];exact bR.alloc nL _
    have hot:Own wt ws.heap.size 36 (.slice (some ⟨ws.heap.size,0,none⟩) x.texts.length x.texts.length) (List.replicate x.texts.length (⟨⟨[],[]⟩⟩:Av TextP (fun b=>wo.heap.size≤b))):=by
     rw[←hwt];exact own_made (α:=Av TextP (fun b=>wo.heap.size≤b)) ws nL (by unfold maxLen;omega) rfl (show 0<2 by decide) (by simp[Value.oneCell']) (fun W S=>⟨_,_,rfl,⟨none,0,rfl,Sl.nil _ _ _ _ (by simp[maxLen]),by simp⟩,⟨none,0,rfl,Sl.nil _ _ _ _ (by simp[maxLen]),by simp⟩⟩)
    have hzt:wt.heap.size=ws.heap.size+1:=(by rw[←hwt];simp);have HBWT:Hid (Below wo.heap.size wo wt):=Lh (hbs.trans (hbt.mono hbs.size));have HYT:=Lh (hys.to hbt);have y3:=hys.cell 3 rfl;have y3t:=HYT.out.cell 3 rfl;have HOT:=Lh hot;have HZT:Hid (ws.heap.size=wo.heap.size+1∧wt.heap.size=wo.heap.size+2):=Lh ⟨hzs,by omega⟩;clear hbs hys hzs hbt hot hzt;go_upto_region 6 with(fail);(try rw[hws]);have HWS:=Lh hws;clear hws r0 r1 r2 r3
    go_upto_region 7 with(first|(refine Qbq rfl 72 (.tmp 26) (.tmp 26) rfl 36 (.agg #[.slice none 0 0,.slice none 0 0]) 2 48 Tryz.underlying72 QeS x.texts.length rfl rfl (by omega) (by omega) ?_)|fail)
    (try rw[hwt]);have HWT:=Lh hwt;clear hwt y3;go_wp2_with fail;clear y3t;have HCT:=Lh (HCS.out.to HBWT.out);have HX0T:=Lh (HX0.out.to HBWT.out);have HX1T:=Lh (HX1.out.to HBWT.out)
    go_loopw [31] (fun vj wr2=>∃j:Nat,j≤x.texts.length∧vj=.int .i64 (j:Int)∧Hid (CX wr2 g rows l k)∧Hid (Below wo.heap.size wo wr2∧ws.heap.size<wr2.heap.size)∧Hid (ABox wr2 wo.heap.size 74 [.int .i64 x.entry,.bool x.frozen,.slice Ag x.vers.length cg,.slice An x.texts.length cn])∧ Hid (Own wr2 ws.heap.size 36 (.slice (some ⟨ws.heap.size,0,none⟩) x.texts.length x.texts.length) ((x.texts.take j++List.replicate (x.texts.length-j) (⟨[],[]⟩:TextP)).map (Av.mk:TextP→Av TextP (fun b=>wo.heap.size≤b))))∧ Hid (ABox wr2 w.heap.size 25 [.int .i64 m,.int .i64 h,.slice A l.length c])∧Hid (ABox wr2 (w.heap.size+1) 25 [.int .i64 0,.int .i64 0,.slice none 0 0])) (fun vj _=>x.texts.length-(intOf vj).toNat)
    (case atStart=>exact⟨0,Nat.zero_le _,rfl,HCT,Lh ⟨HBWT.out,by have:=HZT.out;omega⟩,HYT,Lh (by have:=HOT.out;simpa using this),HX0T,HX1T⟩);case round=>
     clear HCT HX0T HX1T HYT HOT HBWT;clear HWT;have HZS:Hid (ws.heap.size=wo.heap.size+1):=Lh HZT.out.1;clear HZT;clear wt;obtain⟨j,hj,rfl,HCS2,HBI,HYS,HOW,HX02,HX12⟩:=hrel;by_cases hlj:j<x.texts.length
     ·have hjl:(j:Int)<(x.texts.length:Int):=by omega
      have hj0:(0:Int)≤(j:Int):=(by omega);have HTSr:Hid (Sl wr (fun b=>b<g) An cn x.texts):=Lh (HTS.out.old (fun i hi hil=>HBI.out.1.block i (by have:=HB.out.2;omega)) (by have:=HB.out.2;have:=HBI.out.1.size;omega));obtain⟨b,o,Aa,ca,Ab,cb,hA,hbg,hbl,t0,t1,haS,hbS⟩:=text_at HTSr.out hlj;subst hA;have HSX:=Lh (HXS.out.2.2 x.texts[j] (List.getElem_mem hlj));have HST:=Lh (texts_set x.texts (fun b=>wo.heap.size≤b) hlj);have hlc:x.texts.length≤cn:=HTSr.out.1;obtain⟨y,hy⟩:∃y,x.texts[j]=y:=⟨_,rfl⟩;rw[hy] at t0 t1 haS hbS HSX HST;obtain⟨wz,hwz⟩:∃wz,wr.alloc (.cells #[.slice Aa y.a.length ca,.slice Ab y.b.length cb] 36)=wz:=⟨_,rfl⟩;have hbz:Below wr.heap.size wr wz:=(by rw[←hwz];exact bR.alloc nL _);have hzz:ABox wz wr.heap.size 36 [.slice Aa y.a.length ca,.slice Ab y.b.length cb]:=(by rw[←hwz];exact heap_alloc_new wr _);have z0:=hzz.cell 0 rfl;have z1:=hzz.cell 1 rfl;have HAS:Hid (Sl wz (fun b=>b<wz.heap.size) Aa ca y.a):=Lh ((haS.keep (Kept.all hbz) hbz.size).mono (fun i hi hl=>hl));have HBS:Hid (Sl wz (fun b=>b<wz.heap.size) Ab cb y.b):=Lh ((hbS.keep (Kept.all hbz) hbz.size).mono (fun i hi hl=>hl));have HBZ:=Lh hbz;clear hy haS hbS hzz hbz HTSr;go_upto_region 10 with(fail);(try rw[hwz]);have HWZ:=Lh hwz;clear hwz t0 t1;have HCL:Hid (Calls Tryz.prog 71 #[.agg #[.slice Aa y.a.length ca,.slice Ab y.b.length cb]] wz fun e w'=>∃va vb,e=.returned (.agg #[va,vb])∧Rep.R w' (Up wz.heap.size) [va,vb] (⟨y.a,y.b⟩:TextP)∧Below wz.heap.size wz w'):=Lh (Qet Aa Ab ca cb y.a y.b wz HAS.out HBS.out HSX.out.1 HSX.out.2);obtain⟨L,hL⟩:∃L:List (Av TextP (fun b=>wo.heap.size≤b)),((x.texts.take j++List.replicate (x.texts.length-j) (⟨[],[]⟩:TextP)).map (Av.mk:TextP→Av TextP (fun b=>wo.heap.size≤b)))=L:=⟨_,rfl⟩;have hLL:x.texts.length=L.length:=(by rw[←hL];simp;omega);rw[hL] at HOW HST;have HLL:=Lh hLL;clear hL hLL
      go_wp2_with (first
       |(go_at_call 71;refine HCL.out.mono ?_;rintro e w5 ⟨va,vb,rfl,hr5,hb5⟩;have hb5w:Below wr.heap.size wr w5:=HBZ.out.trans (hb5.mono HBZ.out.size);have ho5:Own w5 ws.heap.size 36 (.slice (some ⟨ws.heap.size,0,none⟩) L.length x.texts.length) L:=(by have h:=HOW.out.below hb5w;rwa [show Value.slice (some ⟨ws.heap.size,0,none⟩) x.texts.length x.texts.length=Value.slice (some ⟨ws.heap.size,0,none⟩) L.length x.texts.length by rw[←HLL.out]] at h);have hdi:j<L.length:=(by rw[←HLL.out];exact hlj);have HTH:=Lh (ho5.there hdi);have hrp:Rep.R w5 (fun b=>b≠ws.heap.size) [va,vb] (⟨⟨y.a,y.b⟩⟩:Av TextP (fun b=>wo.heap.size≤b)):=Rep.mono (α:=TextP) hr5 (fun i hi _=>(by have h1:wz.heap.size≤i:=hi;have h2:=HBZ.out.size;have h3:=HBI.out.2;have h4:=HZS.out;have h5:=HB.out.2;exact⟨by omega,by omega⟩));have HSM:=Lh (ho5.setMid hdi hrp);have HON:Hid ((#[va,vb]:Array Value).all (·.oneCell')=true):=Lh (by have h1:=Rep.one hr5 va (by simp);have h2:=Rep.one hr5 vb (by simp);simp[h1,h2]);have HB5:=Lh hb5w;clear hr5 hb5 hb5w ho5 hdi hrp)
       |(refine wpList_store_mid rfl 36 (.tmp 40) (.tmp 39) rfl ws.heap.size (j*2) #[va,vb] rfl rfl HTH.out (by kernel_rfl) HON.out ?_)
       |fail)
      go_roundw;have hws:wo.heap.size≤ws.heap.size:=(by have:=HZS.out;omega);have HB6:Hid (Below wo.heap.size wo (w5.setCells ws.heap.size (j*2) [va,vb])):=Lh (Qb3 hws _ _ (HBI.out.1.trans (HB5.out.mono HBI.out.1.size)));have HS6:Hid (ws.heap.size<(w5.setCells ws.heap.size (j*2) [va,vb]).heap.size):=Lh (by rw[Qcc];have:=HBI.out.2;have:=HB5.out.size;omega);have HY6:Hid (ABox (w5.setCells ws.heap.size (j*2) [va,vb]) wo.heap.size 74 [.int .i64 x.entry,.bool x.frozen,.slice Ag x.vers.length cg,.slice (some ⟨b,o,none⟩) x.texts.length cn]):=Lh ((Qa6 _ (show wo.heap.size≠ws.heap.size by have:=HZS.out;omega) _ _ _).trans (HYS.out.to HB5.out))
      have HO6:Hid (Own (w5.setCells ws.heap.size (j*2) [va,vb]) ws.heap.size 36 (.slice (some ⟨ws.heap.size,0,none⟩) x.texts.length x.texts.length) ((x.texts.take (j+1)++List.replicate (x.texts.length-(j+1)) (⟨[],[]⟩:TextP)).map (Av.mk:TextP→Av TextP (fun b=>wo.heap.size≤b)))):=Lh (by
       rw[←HST.out]
       have h:=HSM.out
       rw[←HLL.out] at h
       exact h)
      clear HSM HTH HON HB5;(case rel=>exact⟨j+1,by omega,by go_num,Lh (HCS.out.to HB6.out),Lh ⟨HB6.out,HS6.out⟩,HY6,HO6,Lh (HX0.out.to HB6.out),Lh (HX1.out.to HB6.out)⟩);case measure=>(first|(simp[intOf];done)|(simp[intOf];omega))
     ·have HJE:Hid (((x.texts.take j++List.replicate (x.texts.length-j) (⟨[],[]⟩:TextP)).map (Av.mk:TextP→Av TextP (fun b=>wo.heap.size≤b)))=x.texts.map Av.mk):=Lh (by rw[show j=x.texts.length by omega,List.take_length,Nat.sub_self,List.replicate_zero,List.append_nil]);rw[HJE.out] at HOW;have HVSr:Hid (Sl wr (fun b=>b<wr.heap.size) Ag cg x.vers):=Lh ((HVS.out.old (fun i hi hil=>HBI.out.1.block i (by have:=HB.out.2;omega)) (by have:=HB.out.2;have:=HBI.out.1.size;omega)).mono (fun i hi hl=>hl));have y2:=HYS.out.cell 2 rfl;have hkc:l.length≤l.length:=Nat.le_refl _;have HCLN:Hid (Calls Tryz.prog 137 #[.slice Ag x.vers.length cg] wr fun e w'=>∃v,e=.returned v∧Own w' wr.heap.size 3 v x.vers∧Below wr.heap.size wr w'):=Lh (Qdy Ag cg x.vers.length x.vers wr HVSr.out rfl (by have:=HXS.out.1;omega));go_wp2_with fail;refine HCLN.out.mono ?_;rintro e w7 ⟨v7,rfl,ho7,hb7⟩;obtain⟨A7,c7,rfl,-⟩:=ho7.form;have HB7:Hid (Below wo.heap.size wo w7):=Lh (HBI.out.1.trans (hb7.mono HBI.out.1.size));have HT7:Hid (Rep.R w7 (fun b=>wo.heap.size≤b∧some b≠(Value.slice A7 x.vers.length c7).ownBlock) [.slice (some ⟨ws.heap.size,0,none⟩) x.texts.length x.texts.length] x.texts):=Lh (Rep.mono (Rep.keep ((show OwnP wr ws.heap.size 36 (.slice (some ⟨ws.heap.size,0,none⟩) x.texts.length x.texts.length) x.texts (fun b=>wo.heap.size≤b) from⟨HOW.out,fun q hq=>(by cases hq;have:=HZS.out;show wo.heap.size≤ws.heap.size;omega)⟩).rep (S:=fun b=>wo.heap.size≤b∧b<wr.heap.size) (by omega) (fun i hi hl=>⟨hi,hl⟩)) (Kept.all hb7)) (fun b hb _=>⟨hb.1,fun e=>by have:=(ho7.lt b e.symm).1;have:=hb.2;omega⟩));have HO7:Hid (Own w7 wo.heap.size 3 (.slice A7 x.vers.length c7) x.vers):=Lh (ho7.re HBI.out.1.size);have HC7:=Lh (HCS.out.to HB7.out);have hq7:=(HC7.out.cs.row hlt hkr).2.2.1;have hq8:=(HC7.out.cs.row hlt hkr).2.2.2.1;have hf7:=(HC7.out.cs.row hlt hkr).2.2.2.2 (k*4+2);have hf8:=(HC7.out.cs.row hlt hkr).2.2.2.2 (k*4+3);have hq9:(w7.setCell ⟨g,k*4+2,none⟩ (.slice A7 x.vers.length c7)).cell? ⟨g,k*4+3,none⟩=some rows[k].v2:=(World.cell?_setCell_other _ _ _ _ (by intro h;injection h with _ h;omega)).trans hq8;have hf9:(w7.setCell ⟨g,k*4+2,none⟩ (.slice A7 x.vers.length c7)).frozen? ⟨g,k*4+3,none⟩=false:=(World.frozen?_setCell _ _ _ _).trans hf8;clear ho7 hb7 hq8 hf8;go_wp2_with fail;go_roundw;obtain⟨rows',hcl⟩:=HCS0.out.set HB7.out HB.out.2 hlt (v1:=.slice A7 x.vers.length c7) (v2:=.slice (some ⟨ws.heap.size,0,none⟩) x.texts.length x.texts.length) (by rw[HXE.out];exact HO7.out) (by rw[HXE.out];have:=HXS.out.1;omega) (by rw[HXE.out];exact HT7.out) (by rw[HXE.out];exact⟨_,rfl⟩);have HC8:=Lh hcl;have hgw:w.heap.size≤g:=by have:=HSZ.out;omega
      have HB8:Hid (Below w.heap.size w ((w7.setCell ⟨g,k*4+2,none⟩ (.slice A7 x.vers.length c7)).setCell ⟨g,k*4+3,none⟩ (.slice (some ⟨ws.heap.size,0,none⟩) x.texts.length x.texts.length))∧g<((w7.setCell ⟨g,k*4+2,none⟩ (.slice A7 x.vers.length c7)).setCell ⟨g,k*4+3,none⟩ (.slice (some ⟨ws.heap.size,0,none⟩) x.texts.length x.texts.length)).heap.size):=Lh ⟨((HB.out.1.trans (HB7.out.mono HB.out.1.size)).setCell (p:=⟨g,k*4+2,none⟩) hgw _).setCell (p:=⟨g,k*4+3,none⟩) hgw _,by have:=HB7.out.size;have:=HB.out.2;simp;omega⟩;have HX08:Hid (ABox ((w7.setCell ⟨g,k*4+2,none⟩ (.slice A7 x.vers.length c7)).setCell ⟨g,k*4+3,none⟩ (.slice (some ⟨ws.heap.size,0,none⟩) x.texts.length x.texts.length)) w.heap.size 25 [.int .i64 m,.int .i64 h,.slice A l.length c]):=Lh (((HX0.out.to HB7.out).other (by have:=HSZ.out;omega) _ _).other (by have:=HSZ.out;omega) _ _);have HX18:Hid (ABox ((w7.setCell ⟨g,k*4+2,none⟩ (.slice A7 x.vers.length c7)).setCell ⟨g,k*4+3,none⟩ (.slice (some ⟨ws.heap.size,0,none⟩) x.texts.length x.texts.length)) (w.heap.size+1) 25 [.int .i64 0,.int .i64 0,.slice none 0 0]):=Lh (((HX1.out.to HB7.out).other (by have:=HSZ.out;omega) _ _).other (by have:=HSZ.out;omega) _ _);(case rel=>exact⟨k+1,rows',by omega,by go_num,HC8,HB8,HX08,HX18⟩);case measure=>(first|(simp[intOf];done)|(simp[intOf];omega))
   ·have HFI:Hid (CX wo g rows l l.length):=Lh (by have:=HCS.out;rwa [show k=l.length by omega] at this);have HOP:=Lh HFI.out;clear HCS HFI;have x2:=HX0.out.cell 2 rfl;have xf:=HX0.out.fz 2;have HY0:=Lh (HX0.out.set 2 (.slice (some ⟨g,0,none⟩) l.length l.length));have HY1:=Lh (HX1.out.other (show w.heap.size+1≠w.heap.size by omega) 2 (.slice (some ⟨g,0,none⟩) l.length l.length));have y0:=HY0.out.cell 0 rfl;have y1:=HY0.out.cell 1 rfl;have y2:=HY0.out.cell 2 rfl;have z0:=HY1.out.cell 0 rfl;have z1:=HY1.out.fz 0;have z2:=(HY1.out.set 0 (.int .i64 m)).cell 1 rfl;have z3:=(HY1.out.set 0 (.int .i64 m)).fz 1;have z4:=((HY1.out.set 0 (.int .i64 m)).set 1 (.int .i64 h)).cell 2 rfl;have z5:=((HY1.out.set 0 (.int .i64 m)).set 1 (.int .i64 h)).fz 2;have HYF:=Lh (((HY1.out.set 0 (.int .i64 m)).set 1 (.int .i64 h)).set 2 (.slice (some ⟨g,0,none⟩) l.length l.length));have h0:w.heap.size≤w.heap.size+1:=by omega
    have HBF:=Lh ((((HB.out.1.setCell (p:=⟨w.heap.size,2,none⟩) nL (.slice (some ⟨g,0,none⟩) l.length l.length)).setCell (p:=⟨w.heap.size+1,0,none⟩) h0 (.int .i64 m)).setCell (p:=⟨w.heap.size+1,1,none⟩) h0 (.int .i64 h)).setCell (p:=⟨w.heap.size+1,2,none⟩) h0 (.slice (some ⟨g,0,none⟩) l.length l.length))
    have HOF:=Lh (HOP.out.kept (W':=(((wo.setCell ⟨w.heap.size,2,none⟩ (.slice (some ⟨g,0,none⟩) l.length l.length)).setCell ⟨w.heap.size+1,0,none⟩ (.int .i64 m)).setCell ⟨w.heap.size+1,1,none⟩ (.int .i64 h)).setCell ⟨w.heap.size+1,2,none⟩ (.slice (some ⟨g,0,none⟩) l.length l.length)) (fun i (hi:g≤i) _=>by
     have e0:i≠w.heap.size:=(by have:=HSZ.out;omega)
     have e1:i≠w.heap.size+1:=(by have:=HSZ.out;omega)
     rw[Qac _ _ _ _ e1,Qac _ _ _ _ e1,Qac _ _ _ _ e1,Qac _ _ _ _ e0]))
    clear h0 HOP;go_wp2_with fail
    exact bodyPost_ret (v:=.agg #[.int .i64 m,.int .i64 h,(.slice (some ⟨g,0,none⟩) l.length l.length)]) (QbW Tryz.results93 _ _ (w.heap.size+1) _ #[.int .i64 m,.int .i64 h,(.slice (some ⟨g,0,none⟩) l.length l.length)] (0,0) _ rfl HYF.out Tryz.underlying25 rfl (by kernel_rfl)) rfl ⟨_,_,rfl,by have:=HSZ.out;omega,by have:=HB.out.2;simp;omega,HOF.out,HBF.out⟩
theorem cloned_fit (A:Option Addr)(c:Nat)(l:List SectP)(m h:Int)(w:World)(hs:Sl w (fun b=>b<w.heap.size) A c l)(hsh:QbX l):
 Calls Tryz.prog 93 #[.agg #[.int .i64 m,.int .i64 h,.slice A l.length c]] w fun e w'=>∃A5,e=.returned (.agg #[.int .i64 m,.int .i64 h,.slice A5 l.length l.length])∧OwnP w' w.heap.size 74 (.slice A5 l.length l.length) l (Up w.heap.size)∧Below w.heap.size w w':=by
 refine(cloned_own A c l m h w hs hsh).mono ?_;rintro e w2 ⟨g,rows,rfl,h1,-,h2,h3⟩;exact⟨_,rfl,up_own h2.cs.done h1,h3⟩
theorem cloned_any (A:Option Addr)(c:Nat)(l:List SectP)(m h:Int)(w:World)(hs:Sl w (fun b=>b<w.heap.size) A c l)(hsh:QbX l):
 Calls Tryz.prog 93 #[.agg #[.int .i64 m,.int .i64 h,.slice A l.length c]] w fun e w'=>∃v,e=.returned (.agg #[.int .i64 m,.int .i64 h,v])∧OwnP w' w.heap.size 74 v l (Up w.heap.size)∧Below w.heap.size w w':=by
 refine(cloned_fit A c l m h w hs hsh).mono ?_;rintro e w2 ⟨A5,rfl,h1,h2⟩;exact⟨_,rfl,h1,h2⟩
end Go.Proofs.YtegaapiocihcpaaGreatDoor
namespace Go.Proofs.YtegaapiocihcpaaGreatDoor
open Go.RowKit
structure KS (S:Nat→Prop)(a b:World):Prop where
 os:b.os=a.os
 tape:b.tape=a.tape
 output:b.output=a.output
 size:a.heap.size≤b.heap.size
 block:∀i,S i→i<a.heap.size→b.heap[i]? =a.heap[i]?
section
variable {S T:Nat→Prop} {a b c:World}
theorem KS.trans (h:KS S a b)(k:KS S b c):KS S a c:=⟨k.os.trans h.os,k.tape.trans h.tape,k.output.trans h.output,Nat.le_trans h.size k.size,fun i hi hl=>(k.block i hi (Nat.lt_of_lt_of_le hl h.size)).trans (h.block i hi hl)⟩
theorem KS.mono (h:KS S a b)(hS:∀i,T i→i<a.heap.size→S i):KS T a b:=⟨h.os,h.tape,h.output,h.size,fun i hi hl=>h.block i (hS i hi hl) hl⟩
theorem KS.of_below (h:Below a.heap.size a b)(S:Nat→Prop):KS S a b:=⟨h.os,h.tape,h.output,h.size,fun i _ hl=>h.block i hl⟩
theorem KS.kept (h:KS S a b):Kept S a b:=fun i hi hl=>h.block i hi hl
theorem KS.putObj {W:World}{l:Nat}(o:Obj)(hS:¬S l):KS S W (W.putObj l o):=
 have g:=grownBy_putObj' W l o
 ⟨g.os,g.tape,g.output,g.size,fun i hi hl=>g.block i hl (fun e=>hS (by injection e with e;exact e▸hi))⟩
theorem KS.setCell {W:World}{l:Nat}(o:Nat)(u:Value)(hS:¬S l):KS S W (W.setCell ⟨l,o,none⟩ u):=
 ⟨rfl,rfl,rfl,by simp,fun i hi _=>Qac W l o u (fun e=>hS (e▸hi))⟩
theorem KS.alloc {W:World}(o:Obj):KS S W (W.alloc o):=KS.of_below (bR.alloc nL _) S
theorem KS.grown {row:Option Nat}(h:a.grownBy b row)(hS:∀i,row=some i→¬S i):KS S a b:=⟨h.os,h.tape,h.output,h.size,fun i hi hl=>h.block i hl (fun e=>hS i e.symm hi)⟩
theorem KS.below {n:Nat}(h:KS S a b)(hS:∀i,i<n→S i)(hn:n≤a.heap.size):Below n a b:=⟨h.os,h.tape,h.output,h.size,fun i hi=>h.block i (hS i hi) (by omega)⟩
end
variable {F:Fence} {n:Nat} {P:Program}
def SeqIn {α:Type}(F:Fence)(n:Nat)(P:Program)(g:Nat)(lb:Array Value)(encs:α→Array Value)(Pr:(Nat→Prop)→α→World→Prop)(n₀:Nat)(S Sp:List α→Prop)(N:Nat)(w:World):Prop:=
 ∀(l:Nat) (J:List α→(Nat→Prop)→(Nat→Prop)→World→Prop) (Jx:List α→World→Prop) (W:World),Below w.heap.size w W→ (∀pre M R A B,J pre M R A→KS (fun i=>i<W.heap.size∨R i) A B→J pre M R B)→
  (∀pre M R x W1 PM,J pre M R W1→W.heap.size≤W1.heap.size→pre.length<N→Pr PM x W1→(∀i,PM i→i<W1.heap.size→W.heap.size≤i∧¬M i)→ YieldAt F (n-1) P l (encs x) W1 fun e W'=>
    (e=.returned (.bool true)∧∃M' R',J (pre++[x]) M' R' W'∧KS (fun i=>i<n₀∨(W.heap.size≤i∧¬M i)) W1 W'∧(∀i,M' i→M i∨(W1.heap.size≤i∧i<W'.heap.size))∧(∀i,R' i→R i∨(PM i∧i<W1.heap.size)∨(W1.heap.size≤i∧i<W'.heap.size)))∨
    (e=.returned (.bool false)∧Jx (pre++[x]) W'))→
  J [] (fun _=>False) (fun _=>False) W→
  CallsIn F n P g (#[.func (.yield l) #[] #[]]++lb) W fun e W'=>(∃v,e=.returned v)∧((∃xs,S xs∧∃M R,J xs M R W')∨(∃pre,Sp pre∧Jx pre W'))
def inPost {α:Type}(n₀ n0:Nat)(I:List α→(Nat→Prop)→(Nat→Prop)→World→Prop)(Ix:Code→List α→World→Prop)(M R PM:Nat→Prop)(xs:List α)(W:World):Exit→Act→World→Prop
 |.normal,_,W'=>∃M' R',I xs M' R' W'∧KS (fun i=>i<n₀∨(n0≤i∧¬M i)) W W'∧(∀i,M' i→M i∨(W.heap.size≤i∧i<W'.heap.size))∧(∀i,R' i→R i∨(PM i∧i<W.heap.size)∨(W.heap.size≤i∧i<W'.heap.size))
 |.ret,_,W'=>Ix .ret xs W'∧KS (fun i=>i=n0∨i=n0+1) W W'
 |.exit id,_,W'=>Ix (.exit id) xs W'∧KS (fun i=>i=n0∨i=n0+1) W W'
 |.goto t,_,W'=>Ix (.goto t) xs W'∧KS (fun i=>i=n0∨i=n0+1) W W'
 |.panic _,_,_=>False
 |.outgrown,_,_=>False
theorem Qdz {α:Type}{g:Operand}{ps:Array Tmp}{assign body:Code}{Q:Exit→Act→World→Prop}{a:Act}{w:World} (hro:F.round=none) (h1:1≤n) {gf:Nat} {lb:Array Value} (hg:a.eval g=.func (.func gf) #[] lb) (hFg:F.fn gf) (eg:∀args w,(callFunc gf args).run P w=.ok (.enter gf args) w) {encs:α→Array Value} {Pr:(Nat→Prop)→α→World→Prop} {n₀:Nat} {S Sp:List α→Prop} {N:Nat} {w0:World} (hseq:SeqIn F (n-1) P gf lb encs Pr n₀ S Sp N w0) (hb0:Below w0.heap.size w0 w) (hn0:n₀≤w.heap.size) (hps:∀x,(encs x).size=ps.size) (hPr:∀PM x A B,Pr PM x A→KS PM A B→Pr PM x B) (hPm:∀(PM PM':Nat→Prop) x A,Pr PM x A→(∀i,PM i→i<A.heap.size→PM' i)→Pr PM' x A) (I:List α→(Nat→Prop)→(Nat→Prop)→World→Prop) (Ix:Code→List α→World→Prop) (hI:∀pre M R A B,I pre M R A→KS (fun i=>i<w.heap.size∨R i) A B→I pre M R B) (hIx:∀c,OwnFrom w.heap.size (Ix c)) (h0:I [] (fun _=>False) (fun _=>False) w) (Ax:Nat→α→Act→World→Prop) (hAx:∀k x a',OwnFrom w.heap.size (fun(_:Unit) W=>Ax k x a' W))
 (hassign:∀(l:Nat) (x:α) (W:World) (K:Act→World→Prop),(∀a' W',Below W.heap.size W W'→Ax W.heap.size x a' W'→K a' W')→ assign.wpIn (F.inRound l) (n-1-1) P (Exit.then K (fun _ _ _=>False)) {tmps:=(ps.zip (encs x)).foldl (fun t (p,v)=>t.setIfInBounds p v) a.tmps,defers:=[]} W)
 (hbody:∀(l:Nat) (pre:List α) (M R PM:Nat→Prop) (x:α) (a':Act) (W Wp:World),I pre M R Wp→Wp.heap.size≤W.heap.size→I pre M R W→w.heap.size+2≤W.heap.size→(∀i,M i→w.heap.size+2≤i)→(∀i,R i→w.heap.size+2≤i)→Ax Wp.heap.size x a' W→pre.length<N→Pr PM x W→(∀i,PM i→w.heap.size+2≤i∧¬M i∧i<Wp.heap.size)→ body.wpIn (F.inRound l) (n-1-1) P (inPost n₀ w.heap.size I Ix M R PM (pre++[x]) W) a' W)
 (hdone:∀(D:Nat) (xs:List α) (M R:Nat→Prop) (W:World),w.heap.size≤D→D<w.heap.size+2→S xs→I xs M R W→W.heap[D]? =some (.deferred (some []))→Q .normal {a with defers:={target:=.collected D,args:=#[]}::a.defers} W)
 (hstop:∀(D:Nat) (c:Code) (pre:List α) (W:World),w.heap.size≤D→D<w.heap.size+2→Sp pre→Ix c pre W→W.heap[D]? =some (.deferred (some []))→c.wpIn F n P Q {a with defers:={target:=.collected D,args:=#[]}::a.defers} W):
 (Code.rangeFunc g ps assign body).wpIn F n P Q a w:=by
 refine wpIn_rangeFunc ?_;intro fn hfn;rw[hro];obtain⟨rec,hrec⟩:∃rec:LoopState→Option Code→Loop,rec=fun st pe=>{state:=st,pending:=pe,fn,tmps:=a.tmps,params:=ps,assign,body,defers:=w.heap.size}:=⟨_,rfl⟩
 obtain⟨W1,hW1⟩:∃W1,(w.alloc (.deferred (some []))).alloc (.loop (rec .ready none))=W1:=⟨_,rfl⟩;have hs1:W1.heap.size=w.heap.size+2:=by rw[←hW1];simp
 have hL1:W1.heap[w.heap.size+1]? =some (.loop (rec .ready none)):=by
  rw[←hW1];have:=World.alloc_heap_new (w.alloc (.deferred (some []))) (.loop (rec .ready none));rwa [World.size_alloc] at this
 have hK1:W1.heap[w.heap.size]? =some (.deferred (some [])):=by
  rw[←hW1];exact(Below.heap_alloc _ _ _ (by simp)).trans (World.alloc_heap_new w _)
 have hbw:Below w.heap.size w W1:=by rw[←hW1];exact((Below.refl _ w).alloc nL _).alloc (by simp) _
 have hI1:I [] (fun _=>False) (fun _=>False) W1:=hI _ _ _ _ _ h0 (KS.of_below hbw _)
 refine⟨w.heap.size+1,[{target:=.collected w.heap.size,args:=#[]}],W1,{target:=.fn (.func gf) lb,args:=#[.func (.yield (w.heap.size+1)) #[] #[]]},W1,gf,#[.func (.yield (w.heap.size+1)) #[] #[]]++lb,W1,by rw[←hW1,hrec];exact run_enterLoop_outer _ _ _ _ _,by simp only[resolve,hg];simp[go_sem],fun f' hf'=>by simp[Target.leads] at hf';subst hf';exact hFg,by simp[invoke,go_sem,eg],fun _=>h1,?_⟩
 refine(hseq (w.heap.size+1) (fun pre M R W=>I pre M R W∧W1.heap.size≤W.heap.size∧(∀i,M i→w.heap.size+2≤i)∧(∀i,R i→w.heap.size+2≤i)∧W.heap[w.heap.size+1]? =some (.loop (rec .ready none))∧W.heap[w.heap.size]? =some (.deferred (some []))) (fun pre W=>∃c,Ix c pre W∧W.heap[w.heap.size+1]? =some (.loop (rec .done (some c)))∧W.heap[w.heap.size]? =some (.deferred (some []))) W1 (hb0.trans (hbw.mono hb0.size)) ?_ ?_ ⟨hI1,Nat.le_refl _,fun _ h=>h.elim,fun _ h=>h.elim,hL1,hK1⟩).mono ?_
 ·rintro pre M R A B ⟨hi,hsz,hM,hR,hl,hk⟩ hks;exact⟨hI _ _ _ _ _ hi (hks.mono fun i h _=>h.imp (fun h=>by omega) id),Nat.le_trans hsz hks.size,hM,hR,(hks.block _ (.inl (by omega)) (by omega)).trans hl,(hks.block _ (.inl (by omega)) (by omega)).trans hk⟩
 ·rintro pre M R x W PM ⟨hi,hsz,hM,hR,hl,hk⟩ _ hlen hpr hpm;have hy:=run_yield (P:=P) (args:=encs x) hl (by rw[hrec];exact hps x);rw[hrec] at hy;refine⟨fn,_,assign,body,hy,roundIn_of_wpIn hfn (hassign _ x W _ ?_)⟩;clear hy;intro a' Wa hba hax;have hla:Wa.heap[w.heap.size+1]? =some (.loop (rec .ready none)):=(hba.block _ (by omega)).trans hl;have hka:Wa.heap[w.heap.size]? =some (.deferred (some [])):=(hba.block _ (by omega)).trans hk;have hia:=hI _ _ _ _ _ hi (KS.of_below hba _);have hpa:=hPm PM (fun i=>PM i∧i<W.heap.size) x W hpr (fun i h hl=>⟨h,hl⟩);have hpa:=hPr _ x W Wa hpa (KS.of_below hba _);have hza:=hba.size;refine⟨_,run_beginRound hla (by rw[hrec]),?_⟩;obtain⟨Wb,hWb⟩:∃Wb,Wa.putObj (w.heap.size+1) (.loop {rec .ready none with state:=.busy})=Wb:=⟨_,rfl⟩;have hgb:=grownBy_putObj' Wa (w.heap.size+1) (.loop {rec .ready none with state:=.busy});rw[hWb] at hgb;have hlb:Wb.heap[w.heap.size+1]? =some (.loop {rec .ready none with state:=.busy}):=(by rw[←hWb];exact World.putObj_heap_same (by omega));have hkb:Wb.heap[w.heap.size]? =some (.deferred (some [])):=(by rw[←hWb];exact(World.putObj_heap_other (by omega)).trans hka);have hzb:Wa.heap.size≤Wb.heap.size:=hgb.size
  have hib:I pre M R Wb:=hI _ _ _ _ _ hia (KS.grown hgb (fun i e h=>by
   injection e with e
   rcases h with h|h
   ·omega
   ·have:=hR i h;omega))
  have hpb:Pr (fun i=>PM i∧i<W.heap.size) x Wb:=hPr _ x Wa Wb hpa (KS.grown hgb (fun i e h=>by
   injection e with e
   have:=(hpm i h.1 h.2).1
   omega))
  rw[hWb];refine wpIn_mono (hbody _ pre M R (fun i=>PM i∧i<W.heap.size) x a' Wb W hi (by omega) hib (by omega) hM hR (by rw[←hWb];exact(hAx _ x a').putObj (s:=()) _ hax (by omega) hla rfl) hlen hpb (fun i h=>⟨by have:=(hpm i h.1 h.2).1;omega,(hpm i h.1 h.2).2,h.2⟩)) ?_;have fin:∀(jump:Option Code) (W3:World),Wb.heap.size≤W3.heap.size→W3.heap[w.heap.size+1]? =Wb.heap[w.heap.size+1]? →W3.heap[w.heap.size]? =Wb.heap[w.heap.size]? → (Instr.endRound (w.heap.size+1) jump).run P W3=.ok (.bool jump.isNone) (W3.putObj (w.heap.size+1) (.loop (rec (if jump.isNone then .ready else .done) jump)))∧W3.heap[w.heap.size+1]? =some (.loop {rec .ready none with state:=.busy})∧ (W3.putObj (w.heap.size+1) (.loop (rec (if jump.isNone then .ready else .done) jump))).heap[w.heap.size+1]? =some (.loop (rec (if jump.isNone then .ready else .done) jump))∧ (W3.putObj (w.heap.size+1) (.loop (rec (if jump.isNone then .ready else .done) jump))).heap[w.heap.size]? =some (.deferred (some [])):=fun jump W3 hz3 e1 e2=>by
   have hl3:=e1.trans hlb;have:=run_endRound (P:=P) jump hl3;rw[hrec] at this ⊢;exact⟨this,by rw[hrec] at hl3;exact hl3,World.putObj_heap_same (by omega),(World.putObj_heap_other (by omega)).trans (e2.trans hkb)⟩
  have leave:∀(c:Code) (W3:World),Ix c (pre++[x]) W3→KS (fun i=>i=w.heap.size∨i=w.heap.size+1) Wb W3→ (Instr.endRound (w.heap.size+1) (some c)).run P W3=.ok (.bool false) (W3.putObj (w.heap.size+1) (.loop (rec .done (some c))))∧ ∃c',Ix c' (pre++[x]) (W3.putObj (w.heap.size+1) (.loop (rec .done (some c))))∧(W3.putObj (w.heap.size+1) (.loop (rec .done (some c)))).heap[w.heap.size+1]? =some (.loop (rec .done (some c')))∧ (W3.putObj (w.heap.size+1) (.loop (rec .done (some c)))).heap[w.heap.size]? =some (.deferred (some [])):=fun c W3 hix hk3=>by
   obtain⟨hr,hl3,hl4,hk4⟩:=fin (some c) W3 hk3.size (hk3.block _ (.inr rfl) (by omega)) (hk3.block _ (.inl rfl) (by omega));exact⟨hr,c,(hIx c).putObj _ hix (by omega) hl3 rfl,hl4,hk4⟩
  rintro e a3 W3 hp;cases e with
  |normal=>
   obtain⟨M',R',hi3,hk3,hM',hR'⟩:=hp;obtain⟨hr,hl3,hl4,hk4⟩:=fin none W3 hk3.size (hk3.block _ (.inr ⟨by omega,fun h=>by have:=hM _ h;omega⟩) (by omega)) (hk3.block _ (.inr ⟨by omega,fun h=>by have:=hM _ h;omega⟩) (by omega));have hz3:=hk3.size
   have hR2:∀i,R' i→w.heap.size+2≤i:=fun i h=>by
    rcases hR' i h with h|h|h
    ·exact hR i h
    ·have:=(hpm i h.1.1 h.1.2).1;omega
    ·omega
   have hg3:=grownBy_putObj' W3 (w.heap.size+1) (.loop (rec (if(none:Option Code).isNone then .ready else .done) none));refine⟨_,_,hr,.inl ⟨rfl,M',R',⟨hI _ _ _ _ _ hi3 (KS.grown hg3 (fun i e h=>?_)),by have:=hg3.size;omega,fun i h=>?_,hR2,hl4,hk4⟩,?_,fun i h=>?_,fun i h=>?_⟩⟩
   ·injection e with e
    rcases h with h|h
    ·omega
    ·have:=hR2 i h;omega
   ·rcases hM' i h with h|h
    ·exact hM i h
    ·omega
   ·have k1:KS (fun i=>i<n₀∨(W1.heap.size≤i∧¬M i)) W Wa:=KS.of_below hba _;have k2:KS (fun i=>i<n₀∨(W1.heap.size≤i∧¬M i)) Wa Wb:=KS.grown hgb (fun i e h=>by injection e with e;omega);have k3:KS (fun i=>i<n₀∨(W1.heap.size≤i∧¬M i)) Wb W3:=hk3.mono (fun i h _=>h.imp id (fun h=>⟨by omega,h.2⟩));exact((k1.trans k2).trans k3).trans (KS.grown hg3 (fun i e h=>by injection e with e;omega))
   ·rcases hM' i h with h|h
    ·exact .inl h
    ·exact .inr ⟨by omega,Nat.lt_of_lt_of_le h.2 hg3.size⟩
   ·rcases hR' i h with h|h|h
    ·exact .inl h
    ·exact .inr (.inl h.1)
    ·exact .inr (.inr ⟨by omega,Nat.lt_of_lt_of_le h.2 hg3.size⟩)
  |ret=>
   obtain⟨hr,hh⟩:=leave .ret W3 hp.1 hp.2;exact⟨_,_,hr,.inr ⟨rfl,hh⟩⟩
  |exit id=>
   obtain⟨hr,hh⟩:=leave (.exit id) W3 hp.1 hp.2;exact⟨_,_,hr,.inr ⟨rfl,hh⟩⟩
  |goto t=>
   obtain⟨hr,hh⟩:=leave (.goto t) W3 hp.1 hp.2;exact⟨_,_,hr,.inr ⟨rfl,hh⟩⟩
  |panic ch=>exact hp.elim
  |outgrown=>exact hp.elim
 ·rintro e W2 ⟨⟨v,rfl⟩,(⟨xs,hS,M,R,hi,hsz,hM,hR,hl,hk⟩|⟨pre,hSp,c,hi,hl,hk⟩)⟩
  ·refine⟨none,_,by have:=run_endLoop (P:=P) hl (by rw[hrec];simp);rw[hrec] at this;exact this,hdone _ xs M R _ nL (by omega) hS (hI _ _ _ _ _ hi (KS.putObj _ (fun h=>?_))) ((World.putObj_heap_other (by omega)).trans hk)⟩;rcases h with h|h
   ·omega
   ·have:=hR _ h;omega
  ·exact⟨some c,_,by have:=run_endLoop (P:=P) hl (by rw[hrec];simp);rw[hrec] at this;exact this,hstop _ c pre _ nL (by omega) hSp ((hIx c).putObj _ hi (by omega) hl rfl) ((World.putObj_heap_other (by omega)).trans hk)⟩
end Go.Proofs.YtegaapiocihcpaaGreatDoor
namespace Go.Proofs.YtegaapiocihcpaaGreatDoor
open Go.RowKit
def Qag (a b:List (List Word))(m h:Int):List PageP:=if textE a b m h=0 then QaP a b m h.toNat else[]
def QaJ (m h entry:Int):Nat→Int→Int→List Int→List TextP→List PageP
 |_,_,_,_,[]=>[]
 |k,num,suf,vs,t::ts=>QaQ entry (vs.headD 0) num suf k (Qag t.a t.b m h)++ QaJ m h entry (k+1) (if k=0 then num+(Qag t.a t.b m h).length else num) (if k=0 then suf else suf+(Qag t.a t.b m h).length) vs.tail ts
def QaE (m h:Int)(s:SectP):Nat:=match s.texts with
 |[]=>0
 |t::_=>(Qag t.a t.b m h).length
def Qay (m h:Int):Int→List SectP→List PageP
 |_,[]=>[]
 |num,s::ss=>QaJ m h s.entry 0 num 0 s.vers s.texts++Qay m h (num+QaE m h s) ss
def Qak (m h:Int)(l:List SectP):List PageP:=Qay m h 0 l
theorem Qek (a b:List (List Word))(m h:Int):(Qag a b m h).length≤100000:=by
 unfold Qag;split
 ·rename_i hE;obtain⟨hf,⟨h1,h2⟩,hp⟩:=Qba hE;have e1:=Qcb (Qau a b m) h.toNat (Qaq (QaX a m) (Qau a b m)) (QaX a m) [];have e2:=Qc9 hp;have e3:=QcT hf h1 h2;unfold QaP;omega
 ·exact Nat.zero_le _
theorem QbL (entry ver:Int):∀(ps:List PageP) (num suf:Int) (k:Nat),(QaQ entry ver num suf k ps).length=ps.length
 |[],_,_,_=>by simp[QaQ]
 |p::ps,num,suf,k=>by rw[QaQ,qC,qC,QbL]
theorem versB_len (m h entry:Int):∀(ts:List TextP) (k:Nat) (num suf:Int) (vs:List Int),(QaJ m h entry k num suf vs ts).length≤100000*ts.length
 |[],_,_,_,_=>by simp[QaJ]
 |t::ts,k,num,suf,vs=>by
  rw[QaJ,qA,QbL,qC];have h1:=Qek t.a t.b m h;have h2:=versB_len m h entry ts (k+1) (if k=0 then num+(Qag t.a t.b m h).length else num) (if k=0 then suf else suf+(Qag t.a t.b m h).length) vs.tail;omega
theorem sectsB_len (m h:Int):∀(l:List SectP) (num:Int),(∀s∈l,s.texts.length≤1048576)→(Qay m h num l).length≤104857600000*l.length
 |[],_,_=>by simp[Qay]
 |s::l,num,hs=>by
  rw[Qay,qA,qC];have h1:=versB_len m h s.entry s.texts 0 num 0 s.vers;have h2:=sectsB_len m h l (num+QaE m h s) (fun x hx=>hs x (by simp[hx]));have h3:=hs s (by simp);omega
theorem pagesB_len {m h:Int}{l:List SectP}(hs:QbX l):(Qak m h l).length≤109951162777600000:=by
 have:=sectsB_len m h l 0 (fun s h=>(hs.2 s h).2.1);have:=hs.1;unfold Qak;omega
theorem Qbr (entry ver num suf:Int)(k:Nat)(p:PageP)(ps:List PageP):QaQ entry ver num suf k (p::ps)= {p with num:=if k=0 then num+1 else num,suf:=if k=0 then suf else suf+1,entry:=entry,ver:=ver}::QaQ entry ver (if k=0 then num+1 else num) (if k=0 then suf else suf+1) k ps:=by rw[QaQ]
structure PV where
 num:Int
 suf:Int
 entry:Int
 ver:Int
 body:List LineP
 notes:List LineP
 Aa:Option Addr
 ca:Nat
 Ab:Option Addr
 cb:Nat
def PV.plain (x:PV):PageP:=⟨x.num,x.suf,x.entry,x.ver,x.body,x.notes⟩
def PV.enc (x:PV):Array Value:=#[.agg #[.int .i64 x.num,.int .i64 x.suf,.int .i64 x.entry,.int .i64 x.ver,(.slice x.Aa x.body.length x.ca),(.slice x.Ab x.notes.length x.cb)]]
def SmallP (p:PageP):Prop:=p.body.length≤1048576∧p.notes.length≤1048576
theorem QcJ (notes:List (List LineP))(h N:Nat):∀(f:Nat) (body queue:List LineP),body.length≤N→queue.length+(body.flatMap (Qad notes)).length≤N→∀p∈setPages notes h f body queue,p.body.length≤N∧p.notes.length≤N
 |0,_,_,_,_=>by simp[setPages]
 |f+1,body,queue,h1,h2=>by
  obtain⟨k,a,b,c,d,e⟩:=QbO notes h body 0 (min queue.length (h-1)) queue (Nat.min_le_left _ _);intro p hp;rw[setPages] at hp;split at hp
  ·simp at hp
  ·have hs:(body.flatMap (Qad notes)).length=((body.take k).flatMap (Qad notes)).length+((body.drop k).flatMap (Qad notes)).length:=by
    rw[←qA,←List.flatMap_append,List.take_append_drop]
   have hq:(fillP notes h body 0 (min queue.length (h-1)) queue).2.2.length=queue.length+((body.take k).flatMap (Qad notes)).length:=(by rw[d,qA]);rcases List.mem_cons.1 hp with rfl|hp
   ·refine⟨?_,?_⟩
    ·show(body.take _).length≤N;rw[qK];omega
    ·show((fillP notes h body 0 (min queue.length (h-1)) queue).2.2.take _).length≤N;rw[qK];omega
   ·refine QcJ notes h N f _ _ ?_ ?_ p hp
    ·rw[List.length_drop];omega
    ·rw[List.length_drop,b,Nat.zero_add];omega
theorem okPages_small (a b:List (List Word))(m h:Int):∀p∈Qag a b m h,SmallP p:=by
 unfold Qag;split
 ·rename_i hE;obtain⟨hf,⟨h1,h2⟩,hp⟩:=Qba hE;have e2:=Qc9 hp;have e3:=QcT hf h1 h2;have e4:=QcK (Qau a b m) (QaX a m);intro p hp;have:=QcJ (Qau a b m) h.toNat 100000 _ (QaX a m) [] (by omega) (by simp only[List.length_nil];omega) p hp;exact⟨by omega,by omega⟩
 ·intro p hp;simp at hp
def PV.Pr (PM:Nat→Prop)(x:PV)(W:World):Prop:=Rep.R W PM [.slice x.Aa x.body.length x.ca] x.body∧Rep.R W PM [.slice x.Ab x.notes.length x.cb] x.notes∧SmallP x.plain
theorem PV.pr_keep (PM:Nat→Prop)(x:PV)(A B:World)(h:PV.Pr PM x A)(k:KS PM A B):PV.Pr PM x B:=⟨Rep.keep h.1 k.kept,Rep.keep h.2.1 k.kept,h.2.2⟩
theorem PV.pr_mono (PM PM':Nat→Prop)(x:PV)(A:World)(h:PV.Pr PM x A)(k:∀i,PM i→i<A.heap.size→PM' i):PV.Pr PM' x A:=⟨Rep.mono h.1 k,Rep.mono h.2.1 k,h.2.2⟩
abbrev JT:=List PV→(Nat→Prop)→(Nat→Prop)→World→Prop
structure AI (n₀ Lab:Nat)(w0:World)(J:JT)(num suf:Int)(pre:List PV)(M R:Nat→Prop)(W:World):Prop where
 j:J pre M R W
 old:KS (fun i=>i<n₀) w0 W
 lab:ABox W Lab 40 [.int .i64 num,.int .i64 suf]
 l1:w0.heap.size≤Lab
 lM:¬M Lab
 lR:¬R Lab
 mM:∀i,M i→i<W.heap.size
 mR:∀i,R i→i<W.heap.size
section
variable {n₀ Lab:Nat} {w0 W W':World} {J:JT} {num suf:Int} {pre:List PV} {M R:Nat→Prop}
theorem AI.to (h:AI n₀ Lab w0 J num suf pre M R W)(hJ:∀pre M R A B,J pre M R A→KS (fun i=>i<w0.heap.size∨R i) A B→J pre M R B)(hb:Below W.heap.size W W'):AI n₀ Lab w0 J num suf pre M R W':=
 ⟨hJ _ _ _ _ _ h.j (KS.of_below hb _),h.old.trans (KS.of_below hb _),h.lab.to hb,h.l1,h.lM,h.lR,fun i hi=>Nat.lt_of_lt_of_le (h.mM i hi) hb.size,fun i hi=>Nat.lt_of_lt_of_le (h.mR i hi) hb.size⟩
theorem AI.setNum (h:AI n₀ Lab w0 J num suf pre M R W)(hJ:∀pre M R A B,J pre M R A→KS (fun i=>i<w0.heap.size∨R i) A B→J pre M R B)(hn:n₀≤w0.heap.size)(v:Int):AI n₀ Lab w0 J v suf pre M R (W.setCell ⟨Lab,0,none⟩ (.int .i64 v)):=
 ⟨hJ _ _ _ _ _ h.j (KS.setCell _ _ (fun(e:Lab<w0.heap.size∨R Lab)=>e.elim (fun e=>by have:=h.l1;omega) h.lR)),h.old.trans (KS.setCell _ _ (fun(e:Lab<n₀)=>by have:=h.l1;omega)),by have:=h.lab.set 0 (.int .i64 v);simpa using this,h.l1,h.lM,h.lR,fun i hi=>by have:=h.mM i hi;simpa using this,fun i hi=>by have:=h.mR i hi;simpa using this⟩
theorem AI.setSuf (h:AI n₀ Lab w0 J num suf pre M R W)(hJ:∀pre M R A B,J pre M R A→KS (fun i=>i<w0.heap.size∨R i) A B→J pre M R B)(hn:n₀≤w0.heap.size)(v:Int):AI n₀ Lab w0 J num v pre M R (W.setCell ⟨Lab,1,none⟩ (.int .i64 v)):=
 ⟨hJ _ _ _ _ _ h.j (KS.setCell _ _ (fun(e:Lab<w0.heap.size∨R Lab)=>e.elim (fun e=>by have:=h.l1;omega) h.lR)),h.old.trans (KS.setCell _ _ (fun(e:Lab<n₀)=>by have:=h.l1;omega)),by have:=h.lab.set 1 (.int .i64 v);simpa using this,h.l1,h.lM,h.lR,fun i hi=>by have:=h.mM i hi;simpa using this,fun i hi=>by have:=h.mR i hi;simpa using this⟩
theorem AI.set (h:AI n₀ Lab w0 J num suf pre M R W)(hJ:∀pre M R A B,J pre M R A→KS (fun i=>i<w0.heap.size∨R i) A B→J pre M R B)(hn:n₀≤w0.heap.size){x:Nat}(h1:w0.heap.size≤x)(h2:x≠Lab)(h3:¬R x)(o:Nat)(v:Value):AI n₀ Lab w0 J num suf pre M R (W.setCell ⟨x,o,none⟩ v):=
 ⟨hJ _ _ _ _ _ h.j (KS.setCell _ _ (fun(e:x<w0.heap.size∨R x)=>e.elim (fun e=>by omega) h3)),h.old.trans (KS.setCell _ _ (fun(e:x<n₀)=>by omega)),h.lab.other (Ne.symm h2) o v,h.l1,h.lM,h.lR,fun i hi=>by have:=h.mM i hi;simpa using this,fun i hi=>by have:=h.mR i hi;simpa using this⟩
theorem AI.went (h:AI n₀ Lab w0 J num suf pre M R W){x:PV}{M' R' PM:Nat→Prop}(hj:J (pre++[x]) M' R' W')(hk:KS (fun i=>i<n₀∨(w0.heap.size≤i∧¬M i)) W W')(hM:∀i,M' i→M i∨(W.heap.size≤i∧i<W'.heap.size)) (hR:∀i,R' i→R i∨(PM i∧i<W.heap.size)∨(W.heap.size≤i∧i<W'.heap.size)) (hp:¬PM Lab):AI n₀ Lab w0 J num suf (pre++[x]) M' R' W':=
 ⟨hj,h.old.trans (hk.mono fun i hi _=>.inl hi),(hk.block Lab (.inr ⟨h.l1,h.lM⟩) h.lab.lt).trans h.lab,h.l1,fun e=>(hM _ e).elim h.lM (fun e=>by have:=h.lab.lt;omega),
  fun e=>by
   rcases hR _ e with e|e|e
   ·exact h.lR e
   ·exact hp e.1
   ·have:=h.lab.lt;omega,
  fun i hi=>by
   rcases hM i hi with e|e
   ·exact Nat.lt_of_lt_of_le (h.mM i e) hk.size
   ·exact e.2,
  fun i hi=>by
   rcases hR i hi with e|e|e
   ·exact Nat.lt_of_lt_of_le (h.mR i e) hk.size
   ·exact Nat.lt_of_lt_of_le e.2 hk.size
   ·exact e.2⟩
end
def QdM (f:Nat→Int):Nat→Int
 |0=>0
 |n+1=>if QdM f n≠0 then QdM f n else f n
theorem QcW {f:Nat→Int}:∀{n:Nat},(∀j,j<n→f j=0)→QdM f n=0
 |0,_=>rfl
 |n+1,h=>by rw[QdM,if_neg (by rw[QcW fun j hj=>h j (by omega)];simp),h n (by omega)]
theorem QcO {f:Nat→Int}:∀{n:Nat},QdM f n=0→∀j,j<n→f j=0
 |0,_,j,hj=>absurd hj (Nat.not_lt_zero _)
 |n+1,h,j,hj=>by
  rw[QdM] at h;split at h
  ·rename_i h1;exact absurd h h1
  ·rename_i h1;have h2:=QcO (Decidable.not_not.1 h1);rcases Nat.lt_or_ge j n with h3|h3
   ·exact h2 j h3
   ·obtain rfl:j=n:=by omega
    exact h
def verX (m h:Int)(vs:List Int)(q:Nat)(v:Int)(t:TextP):Int:=if ¬(0≤v∧v≤2147483647) then 5 else if v∈vs.take q then 4 else Qbo m h t.a t.b
def versE (m h:Int)(s:SectP):Int:=QdM (fun q=>verX m h s.vers q (s.vers.getD q 0) (s.texts.getD q ⟨[],[]⟩)) s.vers.length
def openB (l:List SectP)(k:Nat):Bool:=(l.take k).any fun x=> !x.frozen
def secX (m h:Int)(l:List SectP)(k:Nat)(s:SectP):Int:=
 if ¬(0≤s.entry∧s.entry≤65535) then 5 else if QbB l s.entry<(k:Int) then 4 else if s.frozen=true∧openB l k=true then 12
 else if s.vers.length=0∨s.vers.length≠s.texts.length∨(1<s.vers.length∧s.frozen=false) then 1 else if 100<s.vers.length then 2 else versE m h s
def secsE (m h:Int)(l:List SectP):Int:=QdM (fun k=>secX m h l k (l.getD k ⟨0,false,[],[]⟩)) l.length
def chkE (m h:Int)(l:List SectP):Int:=
 if ¬(500≤m∧m≤2000) then 5 else if ¬(4≤h∧h≤100) then 5 else if secsE m h l≠0 then secsE m h l else if 16384<(Qak m h l).length then 2 else 0
def UptoS (m h:Int)(l:List SectP)(k:Nat):Prop:=∀j (hj:j<l.length),j<k→secX m h l j l[j]=0
theorem UptoS.all {m h:Int}{l:List SectP}(H:UptoS m h l l.length)(hm:500≤m∧m≤2000)(hh:4≤h∧h≤100):chkE m h l=if 16384<(Qak m h l).length then 2 else 0:=by
 have h1:secsE m h l=0:=QcW fun j hj=>by
  rw[List.getD_eq_getElem?_getD,qG hj];exact H j hj hj
 unfold chkE;rw[if_neg (not_not_intro hm),if_neg (not_not_intro hh),h1,if_neg (by simp)]
structure OkS (m h:Int)(l:List SectP)(k:Nat)(s:SectP):Prop where
 e:0≤s.entry∧s.entry≤65535
 f:¬QbB l s.entry<(k:Int)
 o:¬(s.frozen=true∧openB l k=true)
 n:s.vers.length≠0
 nt:s.vers.length=s.texts.length
 nf:¬(1<s.vers.length∧s.frozen=false)
 lim:¬100<s.vers.length
 v:versE m h s=0
theorem secX_ok {m h:Int}{l:List SectP}{k:Nat}{s:SectP}(H:secX m h l k s=0):OkS m h l k s:=by
 unfold secX at H;split at H
 ·exact absurd H (by decide)
 ·rename_i h1;split at H
  ·exact absurd H (by decide)
  ·rename_i h2;split at H
   ·exact absurd H (by decide)
   ·rename_i h3;split at H
    ·exact absurd H (by decide)
    ·rename_i h4;split at H
     ·exact absurd H (by decide)
     ·rename_i h5;exact⟨Decidable.not_not.1 h1,h2,h3,fun h=>h4 (.inl h),Decidable.not_not.1 fun h=>h4 (.inr (.inl h)),fun h=>h4 (.inr (.inr h)),h5,H⟩
theorem OkS.sec {m h:Int}{l:List SectP}{k:Nat}{s:SectP}(H:OkS m h l k s):secX m h l k s=0:=by
 unfold secX;rw[if_neg (not_not_intro H.e),if_neg H.f,if_neg H.o,if_neg (fun h=>h.elim H.n fun h=>h.elim (fun h=>h H.nt) H.nf),if_neg H.lim,H.v]
def UptoV (m h:Int)(s:SectP)(q:Nat):Prop:=∀j (hj:j<s.vers.length) (ht:j<s.texts.length),j<q→verX m h s.vers j s.vers[j] s.texts[j]=0
theorem UptoV.all {m h:Int}{s:SectP}(hn:s.vers.length=s.texts.length)(H:UptoV m h s s.vers.length):versE m h s=0:=QcW fun j hj=>by
 have hjt:j<s.texts.length:=by omega
 rw[List.getD_eq_getElem?_getD,qG hj,List.getD_eq_getElem?_getD,qG hjt];exact H j hj hjt hj
theorem Laid.ks {w w':World}{n₀:Nat}(h:Laid w)(hg:0<n₀)(hk:KS (fun i=>i<n₀) w w'):Laid w':=by
 unfold Laid Lib.TabIs World.var? at h ⊢;rw[gW] at h ⊢;simp only[Option.bind_some] at h ⊢;have hlt:0<w.heap.size:=by
  rcases Nat.lt_or_ge 0 w.heap.size with h'|h'
  ·exact h'
  ·rw[Array.getElem?_eq_none h'] at h;cases h
 rw[hk.block _ hg hlt];exact h
theorem otext_any (A B:Option Addr)(c d:Nat)(a b:List (List Word))(m h:Int)(w:World)(hT:Laid w)(ha:Sl w (fun b=>b<w.heap.size) A c a)(hb:Sl w (fun b=>b<w.heap.size) B d b)(hI:I64 h)(hla:a.length≤1048576)(hlb:b.length≤1048576):
 Calls Tryz.prog 125 #[.agg #[.slice A a.length c,.slice B b.length d],.int .i64 m,.int .i64 h] w fun e w'=>∃A' c' q,e=.returned (.tuple #[.slice A' (Qag a b m h).length c',.int .i64 q])∧ OwnP w' w.heap.size 43 (.slice A' (Qag a b m h).length c') (Qag a b m h) (Up w.heap.size)∧Below w.heap.size w w':=by
 refine(ptext_any A B c d a b m h w hT ha hb hI hla hlb).mono ?_;rintro e w' ⟨v,rfl,h1,h2,hb⟩;by_cases hE:textE a b m h=0
 ·have ho:=(h1 hE).up nL;have he:Qag a b m h=QaP a b m h.toNat:=(by unfold Qag;rw[if_pos hE]);rw[←he] at ho;obtain⟨A',c',rfl,-,-⟩:=ho.len;exact⟨A',c',_,rfl,ho,hb⟩
 ·have he:Qag a b m h=[]:=by unfold Qag;rw[if_neg hE]
  rw[h2 hE,he];exact⟨none,0,_,rfl,OwnP.nil _ _ _ _,hb⟩
theorem page_at {w:World}{S:Nat→Prop}{A:Option Addr}{c:Nat}{l:List PageP}(h:Sl w S A c l){k:Nat}(hk:k<l.length):
 ∃b o va vb,A=some ⟨b,o,none⟩∧S b∧b<w.heap.size∧w.cell? ⟨b,o+k*6,none⟩=some (.int .i64 l[k].num)∧w.cell? ⟨b,o+k*6+1,none⟩=some (.int .i64 l[k].suf)∧w.cell? ⟨b,o+k*6+2,none⟩=some (.int .i64 l[k].entry)∧ w.cell? ⟨b,o+k*6+3,none⟩=some (.int .i64 l[k].ver)∧w.cell? ⟨b,o+k*6+4,none⟩=some va∧w.cell? ⟨b,o+k*6+5,none⟩=some vb∧Rep.R w S [va] l[k].body∧Rep.R w S [vb] l[k].notes:=by
 obtain⟨b,o,es,rfl,hb,hlt,⟨va,vb,rfl,h1,h2⟩,hc⟩:=h.at_ hk;exact⟨b,o,va,vb,rfl,hb,hlt,hc 0 _ rfl,hc 1 _ rfl,hc 2 _ rfl,hc 3 _ rfl,hc 4 _ rfl,hc 5 _ rfl,h1,h2⟩
theorem plainB_cons (m h:Int)(s:SectP)(hl:0<s.texts.length):QaE m h s=(Qag s.texts[0].a s.texts[0].b m h).length:=by
 obtain⟨e,f,vs,ts⟩:=s;cases ts with
 |nil=>exact absurd hl (by simp)
 |cons t ts=>rfl
def WfS (l:List SectP):Prop:=∀s∈l,s.texts.length≤s.vers.length
set_option maxRecDepth 100000 in
theorem all1_any (n lp Bb n₀:Nat)(A:Option Addr)(c:Nat)(ls:List SectP)(m h:Int)(J:JT)(Jx:List PV→World→Prop)(W0:World)(hT:Laid W0)(hg:0<n₀)(hn:n₀≤W0.heap.size)(hBb:Bb<n₀) (hbk:ABox W0 Bb 25 [.int .i64 m,.int .i64 h,.slice A ls.length c]) (hs:Sl W0 (fun b=>b<n₀) A c ls) (hsh:QbX ls) (hwf:WfS ls) (hI:I64 h) (hJ:∀pre M R A B,J pre M R A→KS (fun i=>i<W0.heap.size∨R i) A B→J pre M R B)
 (hY:∀pre M R x W1 PM,J pre M R W1→W0.heap.size≤W1.heap.size→pre.length<(Qak m h ls).length→PV.Pr PM x W1→(∀i,PM i→i<W1.heap.size→W0.heap.size≤i∧¬M i)→ YieldAt Fence.wide n Tryz.prog lp x.enc W1 fun e W'=>
   (e=.returned (.bool true)∧∃M' R',J (pre++[x]) M' R' W'∧KS (fun i=>i<n₀∨(W0.heap.size≤i∧¬M i)) W1 W'∧(∀i,M' i→M i∨(W1.heap.size≤i∧i<W'.heap.size))∧(∀i,R' i→R i∨(PM i∧i<W1.heap.size)∨(W1.heap.size≤i∧i<W'.heap.size)))∨
   (e=.returned (.bool false)∧Jx (pre++[x]) W'))
 (h0:J [] (fun _=>False) (fun _=>False) W0):
 Calls Tryz.prog 124 #[.func (.yield lp) #[] #[],.pointer (some ⟨Bb,0,none⟩)] W0 fun e W'=>(∃v,e=.returned v)∧((∃xs,xs.map PV.plain=Qak m h ls∧∃M R,J xs M R W')∨(∃pre,(∃k,pre.map PV.plain=(Qak m h ls).take k)∧Jx pre W')):=by
 have HJ:=Lh hJ;have HY:=Lh hY;have HS:=Lh hs;have HSH:=Lh hsh;have HWF:=Lh hwf;have HT:=Lh hT;have HBK:=Lh hbk;have HI:=Lh hI;have hls:ls.length≤1048576:=hsh.1;have HPN:=Lh (pagesB_len (m:=m) (h:=h) hsh);obtain⟨wb,hwb⟩:∃wb,W0.alloc (.cells #[.int .i64 0,.int .i64 0] 40)=wb:=⟨_,rfl⟩;have hba:Below W0.heap.size W0 wb:=by rw[←hwb];exact bR.alloc nL _
 have hlab:ABox wb W0.heap.size 40 [.int .i64 0,.int .i64 0]:=by rw[←hwb];exact heap_alloc_new W0 _
 have HAI:Hid (AI n₀ W0.heap.size W0 J 0 0 [] (fun _=>False) (fun _=>False) wb):=Lh ⟨hJ _ _ _ _ _ h0 (KS.of_below hba _),KS.of_below hba _,hlab,Nat.le_refl _,fun h=>h,fun h=>h,fun _ h=>h.elim,fun _ h=>h.elim⟩;have b2:=(hbk.to hba).cell 2 rfl;have HWB:=Lh hwb;clear hJ hY hs hsh hwf hT hbk hI h0 hba hlab hwb;go_enter Tryz.func124,Tryz.ntmps124;go_upto_region 1 with(fail);rw[HWB.out];go_wp2_with fail;clear b2;obtain⟨Lab,hLab⟩:∃Lab,W0.heap.size=Lab:=⟨_,rfl⟩;have HLE:=Lh hLab;rw[hLab] at HAI ⊢;clear hLab HWB;go_loopw [16] (fun v16 wr=>∃(k:Nat) (num suf:Int) (pre:List PV) (M R:Nat→Prop),k≤ls.length∧v16=.int .i64 (k:Int)∧Hid (AI n₀ Lab W0 J num suf pre M R wr)∧Hid (pre.map PV.plain++Qay m h num (ls.drop k)=Qak m h ls)∧Hid (0≤num∧num≤pre.length)) (fun v16 _=>ls.length-(intOf v16).toNat);(case atStart=>exact⟨0,0,0,[],_,_,Nat.zero_le _,rfl,HAI,Lh rfl,Lh ⟨Int.le_refl _,Int.le_refl _⟩⟩);case round=>
  clear HAI;clear wb;obtain⟨k,num0,suf0,pre,M,R,hk,rfl,HAI,HEQ,HB⟩:=hrel;by_cases hlt:k<ls.length
  ·obtain⟨wo,rfl⟩:∃wo:World,wo=wr:=⟨_,rfl⟩;have hkl:(k:Int)<(ls.length:Int):=(by omega);have hk0:(0:Int)≤(k:Int):=(by omega);have hlc:ls.length≤c:=HS.out.1;have HSr:Hid (Sl wo (fun b=>b<n₀) A c ls):=Lh (HS.out.old HAI.out.old.kept (by have:=HAI.out.old.size;omega));obtain⟨b,o,Ag,cg,An,cn,hA,hbg,hbl,r0,r1,r2,r3,hvS,htS,-⟩:=Qds HSr.out hlt;subst hA;have HXS:=Lh (HSH.out.2 ls[k] (List.getElem_mem hlt));have HXW:=Lh (HWF.out ls[k] (List.getElem_mem hlt))
   have HEQ2:Hid (pre.map PV.plain++(QaJ m h ls[k].entry 0 num0 0 ls[k].vers ls[k].texts++Qay m h (num0+QaE m h ls[k]) (ls.drop (k+1)))=Qak m h ls):=Lh (by
    have:=HEQ.out
    rw[List.drop_eq_getElem_cons hlt,Qay] at this
    exact this)
   obtain⟨x,hx⟩:∃x,ls[k]=x:=⟨_,rfl⟩;rw[hx] at r0 r1 r2 r3 hvS htS HXS HXW HEQ2;have HVS:Hid (Sl W0 (fun b=>b<n₀) Ag cg x.vers):=Lh (hvS.old (fun i (hi:i<n₀) _=>(HAI.out.old.block i hi (by omega)).symm) hn);have HTS:Hid (Sl W0 (fun b=>b<n₀) An cn x.texts):=Lh (htS.old (fun i (hi:i<n₀) _=>(HAI.out.old.block i hi (by omega)).symm) hn);clear hx hvS htS HSr HEQ;have hm9:x.texts.length≤1048576:=HXS.out.2.1;obtain⟨ws,hws⟩:∃ws,wo.alloc (.cells #[.int .i64 x.entry,.bool x.frozen,.slice Ag x.vers.length cg,.slice An x.texts.length cn] 74)=ws:=⟨_,rfl⟩;have hbs:Below wo.heap.size wo ws:=(by rw[←hws];exact bR.alloc nL _);have hys:ABox ws wo.heap.size 74 [.int .i64 x.entry,.bool x.frozen,.slice Ag x.vers.length cg,.slice An x.texts.length cn]:=(by rw[←hws];exact heap_alloc_new wo _);have hll:Lab<wo.heap.size:=HAI.out.lab.lt;have HLLT:=Lh hll;have HAS:=Lh (HAI.out.to HJ.out hbs);have q1:=HAS.out.lab.cell 1 rfl;have f1:=HAS.out.lab.fz 1;have HA2:=Lh (HAS.out.setSuf HJ.out hn 0);have HY2:=Lh (hys.other (show wo.heap.size≠Lab by omega) 1 (.int .i64 0));have y3:=HY2.out.cell 3 rfl;have HSX:Hid (W0.heap.size≤wo.heap.size∧¬M wo.heap.size∧wo.heap.size<ws.heap.size):=Lh ⟨HAI.out.old.size,fun h=>by have:=HAI.out.mM _ h;omega,hys.lt⟩;have HWS:=Lh hws;clear hws hbs hys hll HAI HAS;go_upto_region 4 with(fail);rw[HWS.out];go_upto_region 5 with(fail);clear q1 f1 r0 r1 r2 r3;have HSK:Hid (ws.heap.size=(ws.setCell ⟨Lab,1,none⟩ (.int .i64 0)).heap.size):=Lh (by simp);obtain⟨Sx,hSx⟩:∃Sx,wo.heap.size=Sx:=⟨_,rfl⟩;have HSXE:=Lh hSx;rw[hSx] at HY2 HSX y3 ⊢;clear hSx;obtain⟨wt,hwt⟩:∃wt,ws.setCell ⟨Lab,1,none⟩ (.int .i64 0)=wt:=⟨_,rfl⟩;rw[hwt] at HA2 HY2 y3 HSK ⊢;clear hwt;go_wp2_with fail;clear y3
   go_loopw [24] (fun v24 wr=>∃(j:Nat) (num suf:Int) (pre:List PV) (M R:Nat→Prop),j≤x.texts.length∧v24=.int .i64 (j:Int)∧Hid (AI n₀ Lab W0 J num suf pre M R wr)∧Hid (ABox wr Sx 74 [.int .i64 x.entry,.bool x.frozen,.slice Ag x.vers.length cg,.slice An x.texts.length cn]∧¬M Sx)∧ Hid (pre.map PV.plain++(QaJ m h x.entry j num suf (x.vers.drop j) (x.texts.drop j)++Qay m h (num0+QaE m h x) (ls.drop (k+1)))=Qak m h ls)∧Hid ((0≤num∧num≤pre.length)∧(0≤suf∧suf≤pre.length))∧Hid ((j=0→num=num0)∧(0<j→num=num0+QaE m h x))) (fun v24 _=>x.texts.length-(intOf v24).toNat)
   (case atStart=>exact⟨0,num0,0,pre,M,R,Nat.zero_le _,rfl,HA2,Lh ⟨HY2.out,HSX.out.2.1⟩,HEQ2,Lh ⟨HB.out,by omega,by omega⟩,Lh ⟨fun _=>rfl,fun h=>absurd h (by omega)⟩⟩);case round=>
    clear HA2 HY2 HEQ2 HB HSK;have HSX1:=Lh HSX.out.1;have HLS:Hid (Lab<Sx):=Lh (by rw[←HSXE.out];exact HLLT.out);clear HSX;clear wt;obtain⟨j,numS,sufS,pre2,M2,R2,hj,rfl,HAI,HYS,HEQ,HB,HNM⟩:=hrel;by_cases hlj:j<x.texts.length
    ·obtain⟨wp,rfl⟩:∃wp:World,wp=wr:=⟨_,rfl⟩;have hjl:(j:Int)<(x.texts.length:Int):=(by omega);have hj0:(0:Int)≤(j:Int):=(by omega);have hszp:n₀≤wp.heap.size:=(by have:=HAI.out.old.size;omega);have HTSr:Hid (Sl wp (fun b=>b<n₀) An cn x.texts):=Lh (HTS.out.old HAI.out.old.kept hszp);obtain⟨b2,o2,Aa,ca,Ab,cb,hA,-,hbl2,t0,t1,haS,hbS⟩:=text_at HTSr.out hlj;subst hA;have hlc2:x.texts.length≤cn:=HTSr.out.1;have HSX2:=Lh (HXS.out.2.2 x.texts[j] (List.getElem_mem hlj));have hjv:j<x.vers.length:=by have:=HXW.out;omega
     have HEQ2:Hid (pre2.map PV.plain++(QaQ x.entry x.vers[j] numS sufS j (Qag x.texts[j].a x.texts[j].b m h)++(QaJ m h x.entry (j+1) (if j=0 then numS+(Qag x.texts[j].a x.texts[j].b m h).length else numS) (if j=0 then sufS else sufS+(Qag x.texts[j].a x.texts[j].b m h).length) (x.vers.drop (j+1)) (x.texts.drop (j+1))++ Qay m h (num0+QaE m h x) (ls.drop (k+1))))=Qak m h ls):=Lh (by
      have h1:=HEQ.out
      rw[List.drop_eq_getElem_cons hlj,List.drop_eq_getElem_cons hjv,QaJ,List.headD_cons,List.tail_cons,List.append_assoc] at h1
      exact h1)
     have HPLB:Hid (j=0→QaE m h x=(Qag x.texts[j].a x.texts[j].b m h).length):=Lh (fun h0=>by
      subst h0
      exact plainB_cons m h x hlj)
     obtain⟨y,hy⟩:∃y,x.texts[j]=y:=⟨_,rfl⟩;rw[hy] at t0 t1 haS hbS HSX2 HEQ2 HPLB;obtain⟨vj,hvj⟩:∃vj,x.vers[j]=vj:=⟨_,rfl⟩;have HVJ:Hid (x.vers[j]? =some vj):=Lh (by rw[qG hjv,hvj]);rw[hvj] at HEQ2;have hpl:=Qek y.a y.b m h;obtain⟨wz,hwz⟩:∃wz,wp.alloc (.cells #[.slice Aa y.a.length ca,.slice Ab y.b.length cb] 36)=wz:=⟨_,rfl⟩;have hbz:Below wp.heap.size wp wz:=(by rw[←hwz];exact bR.alloc nL _);have hzz:ABox wz wp.heap.size 36 [.slice Aa y.a.length ca,.slice Ab y.b.length cb]:=(by rw[←hwz];exact heap_alloc_new wp _);have HAZ:=Lh (HAI.out.to HJ.out hbz);have HYZ:=Lh (HYS.out.1.to hbz);have HBB:Hid (ABox wz Bb 25 [.int .i64 m,.int .i64 h,.slice (some ⟨b,o,none⟩) ls.length c]):=Lh ((HAZ.out.old.block Bb hBb (by omega)).trans HBK.out);have z0:=hzz.cell 0 rfl;have z1:=hzz.cell 1 rfl;have b0:=HBB.out.cell 0 rfl;have b1:=HBB.out.cell 1 rfl
     have HPT:Hid (Calls Tryz.prog 125 #[.agg #[.slice Aa y.a.length ca,.slice Ab y.b.length cb],.int .i64 m,.int .i64 h] wz fun e w'=>∃A' c' q,e=.returned (.tuple #[.slice A' (Qag y.a y.b m h).length c',.int .i64 q])∧ OwnP w' wz.heap.size 43 (.slice A' (Qag y.a y.b m h).length c') (Qag y.a y.b m h) (Up wz.heap.size)∧Below wz.heap.size wz w'):=
      Lh (otext_any Aa Ab ca cb y.a y.b m h wz (HT.out.ks hg HAZ.out.old) ((haS.keep (Kept.all hbz) hbz.size).mono (fun _ _ hl=>hl)) ((hbS.keep (Kept.all hbz) hbz.size).mono (fun _ _ hl=>hl)) HI.out HSX2.out.1.1 HSX2.out.2.1)
     have HZL:Hid (Lab<wz.heap.size∧Sx<wz.heap.size∧W0.heap.size≤wz.heap.size∧(∀i,M2 i→i<wz.heap.size)):=Lh ⟨HAZ.out.lab.lt,HYZ.out.lt,HAZ.out.old.size,HAZ.out.mM⟩;have HWZ:=Lh hwz;have HMX:=Lh HYS.out.2;clear hwz hbz hzz haS hbS HTSr hy hvj HAI HYS HEQ;go_upto_region 8 with(fail);rw[HWZ.out];clear t0 t1;have hsml:=okPages_small y.a y.b m h;obtain⟨ps,hps⟩:∃ps,Qag y.a y.b m h=ps:=⟨_,rfl⟩;rw[hps] at HPT HEQ2 HPLB hpl hsml;have HSML:=Lh hsml;clear hsml;clear hps
     go_upto_region 9 with(first|(go_at_call 125;refine HPT.out.mono ?_;rintro e w5 ⟨A5,c5,q5,rfl,ho5,hb5⟩)|fail)
     have HA5:=Lh (HAZ.out.to HJ.out hb5);have HY5:=Lh (HYZ.out.to hb5);have HO5:Hid (OwnP w5 wz.heap.size 43 (.slice A5 ps.length c5) ps (fun b=>wz.heap.size≤b∧¬M2 b)):=Lh (ho5.mono fun i (hi:wz.heap.size≤i) _=>⟨hi,fun e=>by have:=HZL.out.2.2.2 i e;omega⟩);have hpc5:ps.length≤c5:=(by obtain⟨A9,c9,e9,-,h9,-⟩:=ho5.len;cases e9;exact h9);clear z0 z1 b0 b1 ho5 hb5 HAZ HYZ HBB HPT;obtain⟨numE,hnumE⟩:∃q,(if j=0 then numS+(ps.length:Int) else numS)=q:=⟨_,rfl⟩;obtain⟨sufE,hsufE⟩:∃q,(if j=0 then sufS else sufS+(ps.length:Int))=q:=⟨_,rfl⟩;rw[hnumE,hsufE] at HEQ2;have HNE:=Lh hnumE;have HSE:=Lh hsufE;clear hnumE hsufE;go_wp2_with fail
     go_loopw [40] (fun v40 wr=>∃(q:Nat) (num suf:Int) (pre:List PV) (M R:Nat→Prop),q≤ps.length∧v40=.int .i64 (q:Int)∧Hid (AI n₀ Lab W0 J num suf pre M R wr)∧Hid (ABox wr Sx 74 [.int .i64 x.entry,.bool x.frozen,.slice Ag x.vers.length cg,.slice (some ⟨b2,o2,none⟩) x.texts.length cn]∧¬M Sx)∧ Hid (OwnP wr wz.heap.size 43 (.slice A5 ps.length c5) ps (fun b=>wz.heap.size≤b∧¬M b))∧Hid (pre.map PV.plain++(QaQ x.entry vj num suf j (ps.drop q)++(QaJ m h x.entry (j+1) numE sufE (x.vers.drop (j+1)) (x.texts.drop (j+1))++Qay m h (num0+QaE m h x) (ls.drop (k+1))))=Qak m h ls)∧ Hid ((0≤num∧num≤pre.length)∧(0≤suf∧suf≤pre.length))∧Hid (num=(if j=0 then numS+(q:Int) else numS)∧suf=(if j=0 then sufS else sufS+(q:Int)))) (fun v40 _=>ps.length-(intOf v40).toNat)
     (case atStart=>exact⟨0,numS,sufS,pre2,M2,R2,Nat.zero_le _,rfl,HA5,Lh ⟨HY5.out,HMX.out⟩,HO5,HEQ2,HB,Lh ⟨by split<;>simp,by split<;>simp⟩⟩);case round=>
      clear HA5 HY5 HO5 HEQ2 HB HMX;have HZ3:Hid (Lab<wz.heap.size∧Sx<wz.heap.size∧W0.heap.size≤wz.heap.size):=Lh ⟨HZL.out.1,HZL.out.2.1,HZL.out.2.2.1⟩;clear HZL;clear pre2 M2 R2 w5;obtain⟨q,num,suf,pre3,M3,R3,hq,rfl,HAI,HYS,HO,HEQ,HB,HNS⟩:=hrel;by_cases hlq:q<ps.length
      ·obtain⟨wl,rfl⟩:∃wl:World,wl=wr:=⟨_,rfl⟩;have hql:(q:Int)<(ps.length:Int):=(by omega);have hq0:(0:Int)≤(q:Int):=(by omega);obtain⟨A9,c9,e9,hps⟩:=HO.out.sl;cases e9;obtain⟨b3,o3,va,vb,hA5,-,hb3l,p0,p1,p2,p3,p4,p5,hrb,hrn⟩:=page_at hps hlq;subst hA5
       have HEQ3:Hid (pre3.map PV.plain++({ps[q] with num:=if j=0 then num+1 else num,suf:=if j=0 then suf else suf+1,entry:=x.entry,ver:=vj}::(QaQ x.entry vj (if j=0 then num+1 else num) (if j=0 then suf else suf+1) j (ps.drop (q+1))++(QaJ m h x.entry (j+1) numE sufE (x.vers.drop (j+1)) (x.texts.drop (j+1))++Qay m h (num0+QaE m h x) (ls.drop (k+1)))))=Qak m h ls):=Lh (by
        have h1:=HEQ.out
        rw[List.drop_eq_getElem_cons hlq,Qbr] at h1
        exact h1)
       have HRB:=Lh hrb;have HRN:=Lh hrn;obtain⟨Ab9,cb9,eb,-,-⟩:=hrb;obtain⟨An9,cn9,en,-,-⟩:=hrn;injection eb with eb _
       injection en with en _
       subst eb;subst en;obtain⟨p,hp⟩:∃p,ps[q]=p:=⟨_,rfl⟩;have HSMP:Hid (SmallP p):=Lh (by rw[←hp];exact HSML.out _ (List.getElem_mem _));rw[hp] at p0 p1 p2 p3 p4 p5 HRB HRN HEQ3
       have HLEN:Hid (pre3.length<(Qak m h ls).length):=Lh (by
        have h1:=congrArg List.length HEQ3.out
        rw[qA,qC,qM] at h1
        omega)
       have hb1:0≤num∧num≤109951162777600000:=(by have:=HB.out.1;have:=HLEN.out;have:=HPN.out;omega);have hb2:0≤suf∧suf≤109951162777600000:=(by have:=HB.out.2;have:=HLEN.out;have:=HPN.out;omega);obtain⟨hb11,hb12⟩:=hb1;obtain⟨hb21,hb22⟩:=hb2;have HOm:Hid (OwnP wl wz.heap.size 43 (.slice (some ⟨b3,o3,none⟩) ps.length c5) ps (fun b=>wz.heap.size≤b∧¬M3 b∧b<wl.heap.size)):=Lh (HO.out.mono fun i hi hil=>⟨hi.1,hi.2,hil⟩);have HRBm:=Lh (Rep.mono (S':=fun b=>wz.heap.size≤b∧¬M3 b∧b<wl.heap.size) HRB.out (fun i hi hil=>⟨hi.1,hi.2,hil⟩));have HRNm:=Lh (Rep.mono (S':=fun b=>wz.heap.size≤b∧¬M3 b∧b<wl.heap.size) HRN.out (fun i hi hil=>⟨hi.1,hi.2,hil⟩));obtain⟨wx,hwx⟩:∃wx,wl.alloc (.cells #[.int .i64 p.num,.int .i64 p.suf,.int .i64 p.entry,.int .i64 p.ver,.slice Ab9 p.body.length cb9,.slice An9 p.notes.length cn9] 43)=wx:=⟨_,rfl⟩;have hbx:Below wl.heap.size wl wx:=by rw[←hwx];exact bR.alloc nL _
       have hxx:ABox wx wl.heap.size 43 [.int .i64 p.num,.int .i64 p.suf,.int .i64 p.entry,.int .i64 p.ver,.slice Ab9 p.body.length cb9,.slice An9 p.notes.length cn9]:=(by rw[←hwx];exact heap_alloc_new wl _);have HAX:=Lh (HAI.out.to HJ.out hbx);have HYX:=Lh (HYS.out.1.to hbx);have HOX:=Lh (HOm.out.below hbx);have HRBX:=Lh (Rep.keep HRBm.out (Kept.all hbx));have HRNX:=Lh (Rep.keep HRNm.out (Kept.all hbx));have HXX:=Lh hxx;have HRP:Hid (¬R3 wl.heap.size):=Lh (fun e=>by have:=HAI.out.mR _ e;omega)
       have HPL:Hid (Lab<wl.heap.size∧Sx<wl.heap.size∧wz.heap.size≤wl.heap.size):=Lh ⟨HAI.out.lab.lt,HYS.out.1.lt,by
        rcases Nat.lt_or_ge wl.heap.size wz.heap.size with h|h
        ·exfalso
         have h1:=(page_at hps hlq)
         obtain⟨_,_,_,_,_,h2,h3,_⟩:=h1
         have:=h2.1
         omega
        ·exact h⟩
       have HMX:=Lh HYS.out.2;have HSLT:Hid (Lab<Sx):=Lh HLS.out;have HWX:=Lh hwx;clear hp hps hbx hxx hwx HAI HYS HO HOm HRB HRN HRBm HRNm HEQ;go_upto_region 12 with(fail);rw[HWX.out];clear p0 p1 p2 p3 p4 p5;obtain⟨Px,hPx⟩:∃Px,wl.heap.size=Px:=⟨_,rfl⟩;have HPE:=Lh hPx;rw[hPx] at HXX HRP HPL HOX HRBX HRNX ⊢;clear hPx HWX;have hl0:=HAX.out.lab.cell 0 rfl;have hf0:=HAX.out.lab.fz 0;have hl1:=HAX.out.lab.cell 1 rfl;have hf1:=HAX.out.lab.fz 1;by_cases hj9:j=0
       ·have hjb:((j:Int)==0)=true:=by rw[beq_iff_eq];omega
        have HEQ4:Hid (pre3.map PV.plain++((⟨(num+1),suf,x.entry,vj,p.body,p.notes⟩:PageP)::(QaQ x.entry vj (num+1) suf j (ps.drop (q+1))++(QaJ m h x.entry (j+1) numE sufE (x.vers.drop (j+1)) (x.texts.drop (j+1))++Qay m h (num0+QaE m h x) (ls.drop (k+1)))))=Qak m h ls):=Lh (by
         have h1:=HEQ3.out
         rw[if_pos hj9,if_pos hj9] at h1
         exact h1)
        have HNS4:Hid ((num+1)=(if j=0 then numS+((q+1:Nat):Int) else numS)∧suf=(if j=0 then sufS else sufS+((q+1:Nat):Int))):=Lh (by
         have h1:=HNS.out
         rw[if_pos hj9,if_pos hj9] at h1
         rw[if_pos hj9,if_pos hj9]
         omega)
        clear hj9;go_upto_region 15 with(fail);have HA7:=Lh (HAX.out.setNum HJ.out hn (num+1));have HY7:=Lh (HYX.out.other (show Sx≠Lab by have:=HSX1.out;have:=HSLT.out;omega) 0 (.int .i64 (num+1)));have HX7:=Lh (HXX.out.other (show Px≠Lab by have:=HPL.out;omega) 0 (.int .i64 (num+1)));have HO7:=Lh (HOX.out.set Lab 0 (.int .i64 (num+1)) (fun i hi e=>by have:=hi.1;have:=HZ3.out;omega));have HRB7:=Lh (Rep.keep HRBX.out (KS.setCell (l:=Lab) 0 (.int .i64 (num+1)) (fun(e:wz.heap.size≤Lab∧_)=>by have:=e.1;have:=HZ3.out;omega)).kept);have HRN7:=Lh (Rep.keep HRNX.out (KS.setCell (l:=Lab) 0 (.int .i64 (num+1)) (fun(e:wz.heap.size≤Lab∧_)=>by have:=e.1;have:=HZ3.out;omega)).kept);clear hl0 hf0 hl1 hf1 HAX HYX HXX HOX HRBX HRNX HEQ3;generalize wx.setCell ⟨Lab,0,none⟩ (.int .i64 (num+1))=w7 at*;obtain⟨nn,hnn⟩:∃nn,(num+1)=nn:=⟨_,rfl⟩;obtain⟨sn,hsn⟩:∃sn,suf=sn:=⟨_,rfl⟩;have HNB:Hid ((0≤nn∧nn≤pre3.length+1)∧(0≤sn∧sn≤pre3.length+1)):=Lh (by have:=HB.out;omega);rw[hnn] at HA7 HEQ4 HNS4;rw[hsn] at HA7 HEQ4 HNS4;clear hnn hsn;have hszv:n₀≤w7.heap.size:=(by have:=HA7.out.old.size;omega);have HVr:Hid (Sl w7 (fun b=>b<n₀) Ag cg x.vers):=Lh (HVS.out.old HA7.out.old.kept hszv);obtain⟨bv,ov,hAg,hbv,-,-,cv⟩:=Qcf HVr.out hjv;subst hAg;have hvc:x.vers.length≤cg:=HVr.out.1;have hvj2:x.vers[j]=vj:=(by have h:=HVJ.out;rw[qG hjv] at h;exact Option.some.inj h);rw[hvj2] at cv;clear hvj2 HVr;have hjvI:(j:Int)<(x.vers.length:Int):=by omega
        refine Qaj (fun w'=>w'.cell? ⟨Lab,0,none⟩=some (.int .i64 nn)∧w'.cell? ⟨Lab,1,none⟩=some (.int .i64 sn)∧w'.cell? ⟨Sx,0,none⟩=some (.int .i64 x.entry)∧w'.cell? ⟨Sx,2,none⟩=some (.slice (some ⟨bv,ov,none⟩) x.vers.length cg)∧w'.cell? ⟨bv,ov+j,none⟩=some (.int .i64 vj)) (fun i=>decide (i<13)) (by kernel_rfl) ?_;have hbz:Below w7.heap.size w7 w7.drew:=bR.drew;have HA8:=Lh (HA7.out.to HJ.out hbz);have HY8:=Lh (HY7.out.to hbz);have HX8:=Lh (HX7.out.to hbz);have HO8:=Lh (HO7.out.below hbz);have HRB8:=Lh (Rep.keep HRB7.out (Kept.all hbz));have HRN8:=Lh (Rep.keep HRN7.out (Kept.all hbz));have cv8:w7.drew.cell? ⟨bv,ov+j,none⟩=some (.int .i64 vj):=cv;clear hbz HA7 HY7 HX7 HO7 HRB7 HRN7 cv;generalize w7.drew=W8 at*;have hS0:W8.cell? ⟨Lab,0,none⟩=some (.int .i64 nn)∧W8.cell? ⟨Lab,1,none⟩=some (.int .i64 sn)∧W8.cell? ⟨Sx,0,none⟩=some (.int .i64 x.entry)∧W8.cell? ⟨Sx,2,none⟩=some (.slice (some ⟨bv,ov,none⟩) x.vers.length cg)∧W8.cell? ⟨bv,ov+j,none⟩=some (.int .i64 vj):=
         ⟨HA8.out.lab.cell 0 rfl,HA8.out.lab.cell 1 rfl,HY8.out.cell 0 rfl,HY8.out.cell 2 rfl,cv8⟩
        have HSP:Hid (∀W,KS (fun i=>i≠Px) W8 W→W.cell? ⟨Lab,0,none⟩=some (.int .i64 nn)∧W.cell? ⟨Lab,1,none⟩=some (.int .i64 sn)∧W.cell? ⟨Sx,0,none⟩=some (.int .i64 x.entry)∧W.cell? ⟨Sx,2,none⟩=some (.slice (some ⟨bv,ov,none⟩) x.vers.length cg)∧W.cell? ⟨bv,ov+j,none⟩=some (.int .i64 vj)):=Lh (fun W hW=>by
         have e1:Lab≠Px:=(by have:=HPL.out;omega)
         have e2:Sx≠Px:=(by have:=HPL.out;omega)
         have e3:bv≠Px:=(by have:=HPL.out;have:=HZ3.out;have:=hbv;have:=hn;omega)
         exact⟨hW.kept.cell e1 hS0.1,hW.kept.cell e1 hS0.2.1,hW.kept.cell e2 hS0.2.2.1,hW.kept.cell e2 hS0.2.2.2.1,hW.kept.cell e3 hS0.2.2.2.2⟩)
        clear cv8;refine tE 0 ⟨some 54,Op.load 40 (.tmp 3),40,_,_,_⟩ ?_ rfl ?zq0 (hS0) ?zq1;(case zq0=>intro wS hSw;(have hq:=hSw.1);(have hq2:=hSw.2.1);clear hSw;go_simp;(try with_reducible rfl));(all_goals try go_frame);refine tE 1 ⟨some 55,Op.fieldAddr 74 (.tmp 5) 0,0,_,_,_⟩ ?_ rfl ?zq2 (hS0) ?zq3;(case zq2=>intro _ s;clear s;go_simp;(try with_reducible rfl));(all_goals try go_frame);refine tE 2 ⟨some 56,Op.load 3 (.tmp 55),3,_,_,_⟩ ?_ rfl ?zq4 (hS0) ?zq5;(case zq4=>intro wS hSw;(have hq:=hSw.2.2.1);clear hSw;go_simp;(try with_reducible rfl));(all_goals try go_frame);refine tE 3 ⟨some 57,Op.fieldAddr 74 (.tmp 5) 2,0,_,_,_⟩ ?_ rfl ?zq6 (hS0) ?zq7;(case zq6=>intro _ s;clear s;go_simp;(try with_reducible rfl));(all_goals try go_frame);refine tE 4 ⟨some 58,Op.load 22 (.tmp 57),22,_,_,_⟩ ?_ rfl ?zq8 (hS0) ?zq9;(case zq8=>intro wS hSw;(have hq:=hSw.2.2.2.1);clear hSw;go_simp;(try with_reducible rfl));(all_goals try go_frame);refine tE 5 ⟨some 59,Op.move (.tmp 6),3,_,_,_⟩ ?_ rfl ?zq10 (hS0) ?zq11;(case zq10=>intro _ s;clear s;go_simp;(try with_reducible rfl));(all_goals try go_frame);refine tE 6 ⟨some 60,Op.indexAddr 22 (.tmp 58) (.tmp 59),0,_,_,_⟩ ?_ rfl ?zq12 (hS0) ?zq13;(case zq12=>intro _ s;clear s;go_simp;(try with_reducible rfl));(all_goals try go_frame);refine tE 7 ⟨some 61,Op.load 3 (.tmp 60),3,_,_,_⟩ ?_ rfl ?zq14 (hS0) ?zq15;(case zq14=>intro wS hSw;(have hq:=hSw.2.2.2.2);clear hSw;go_simp;(try with_reducible rfl));(all_goals try go_frame);refine tE 8 ⟨some 62,Op.fieldAddr 43 (.tmp 11) 0,0,_,_,_⟩ ?_ rfl ?zq16 (hS0) ?zq17;(case zq16=>intro _ s;clear s;go_simp;(try with_reducible rfl));(all_goals try go_frame);refine tD 9 ⟨none,Op.store 40 (.tmp 62) (.tmp 54),0,_,_,_⟩ rfl fun K hK=>?_
        have x0:=HX8.out.cell 0 rfl;have y0:=HX8.out.fz 0;have x1:=(HX8.out.set 0 (.int .i64 nn)).cell 1 rfl;have y1:=(HX8.out.set 0 (.int .i64 nn)).fz 1;go_simp;clear x0 y0 x1 y1;refine hK _ _ (fun _=>?_) ?_
        ·exact(HSP.out _ ((KS.setCell _ _ (fun h=>h rfl)).trans (KS.setCell _ _ (fun h=>h rfl))))
        clear hK K;(try simp only[Act.put]);refine tE 10 ⟨some 63,Op.fieldAddr 43 (.tmp 11) 1,0,_,_,_⟩ ?_ rfl ?zq18 ((HSP.out _ ((KS.setCell _ _ (fun h=>h rfl)).trans (KS.setCell _ _ (fun h=>h rfl))))) ?zq19;(case zq18=>intro _ s;clear s;go_simp;(try with_reducible rfl));(all_goals try go_frame);refine tD 11 ⟨none,Op.store 3 (.tmp 63) (.tmp 56),0,_,_,_⟩ rfl fun K hK=>?_
        have x2:=((HX8.out.set 0 (.int .i64 nn)).set 1 (.int .i64 sn)).cell 2 rfl;have y2:=((HX8.out.set 0 (.int .i64 nn)).set 1 (.int .i64 sn)).fz 2;go_simp;clear x2 y2;refine hK _ _ (fun _=>?_) ?_
        ·exact(HSP.out _ (((KS.setCell _ _ (fun h=>h rfl)).trans (KS.setCell _ _ (fun h=>h rfl))).trans (KS.setCell _ _ (fun h=>h rfl))))
        clear hK K;(try simp only[Act.put]);refine tE 12 ⟨some 64,Op.fieldAddr 43 (.tmp 11) 2,0,_,_,_⟩ ?_ rfl ?zq20 ((HSP.out _ (((KS.setCell _ _ (fun h=>h rfl)).trans (KS.setCell _ _ (fun h=>h rfl))).trans (KS.setCell _ _ (fun h=>h rfl))))) ?zq21;(case zq20=>intro _ s;clear s;go_simp;(try with_reducible rfl));(all_goals try go_frame);refine tD 13 ⟨none,Op.store 3 (.tmp 64) (.tmp 61),0,_,_,_⟩ rfl fun K hK=>?_
        have x3:=(((HX8.out.set 0 (.int .i64 nn)).set 1 (.int .i64 sn)).set 2 (.int .i64 x.entry)).cell 3 rfl;have y3:=(((HX8.out.set 0 (.int .i64 nn)).set 1 (.int .i64 sn)).set 2 (.int .i64 x.entry)).fz 3;go_simp;clear x3 y3;refine hK _ _ (fun h=>absurd h (by decide)) ?_;clear hK K;(try simp only[Act.put]);refine Qae (by kernel_rfl) ?_ _;unfold Exit.then;have hpn1:W0.heap.size≤Px:=(by have:=HPL.out;have:=HZ3.out;omega);have hpn2:Px≠Lab:=by have:=HPL.out;omega
        have HA9:=Lh ((((HA8.out.set HJ.out hn hpn1 hpn2 HRP.out 0 (.int .i64 nn)).set HJ.out hn hpn1 hpn2 HRP.out 1 (.int .i64 sn)).set HJ.out hn hpn1 hpn2 HRP.out 2 (.int .i64 x.entry)).set HJ.out hn hpn1 hpn2 HRP.out 3 (.int .i64 vj));have e2:Sx≠Px:=(by have:=HPL.out;omega);have HY9:=Lh ((((HY8.out.other e2 0 (.int .i64 nn)).other e2 1 (.int .i64 sn)).other e2 2 (.int .i64 x.entry)).other e2 3 (.int .i64 vj));have HX9:Hid (ABox ((((W8.setCell ⟨Px,0,none⟩ (.int .i64 nn)).setCell ⟨Px,1,none⟩ (.int .i64 sn)).setCell ⟨Px,2,none⟩ (.int .i64 x.entry)).setCell ⟨Px,3,none⟩ (.int .i64 vj)) Px 43 [.int .i64 nn,.int .i64 sn,.int .i64 x.entry,.int .i64 vj,.slice Ab9 p.body.length cb9,.slice An9 p.notes.length cn9]):=Lh (by have h9:=(((HX8.out.set 0 (.int .i64 nn)).set 1 (.int .i64 sn)).set 2 (.int .i64 x.entry)).set 3 (.int .i64 vj);simpa using h9);have hks:KS (fun b=>wz.heap.size≤b∧¬M3 b∧b<Px) W8 ((((W8.setCell ⟨Px,0,none⟩ (.int .i64 nn)).setCell ⟨Px,1,none⟩ (.int .i64 sn)).setCell ⟨Px,2,none⟩ (.int .i64 x.entry)).setCell ⟨Px,3,none⟩ (.int .i64 vj)):=((KS.setCell _ _ (fun h=>by have:=h.2.2;omega)).trans (KS.setCell _ _ (fun h=>by have:=h.2.2;omega))).trans (KS.setCell _ _ (fun h=>by have:=h.2.2;omega)) |>.trans (KS.setCell _ _ (fun h=>by have:=h.2.2;omega));have HO9:=Lh (HO8.out.kept hks.kept);have HPR:Hid (PV.Pr (fun b=>wz.heap.size≤b∧¬M3 b∧b<Px) ⟨nn,sn,x.entry,vj,p.body,p.notes,Ab9,cb9,An9,cn9⟩ ((((W8.setCell ⟨Px,0,none⟩ (.int .i64 nn)).setCell ⟨Px,1,none⟩ (.int .i64 sn)).setCell ⟨Px,2,none⟩ (.int .i64 x.entry)).setCell ⟨Px,3,none⟩ (.int .i64 vj))):=Lh ⟨Rep.keep HRB8.out hks.kept,Rep.keep HRN8.out hks.kept,HSMP.out⟩;clear hks hS0 HSP HA8 HY8 HX8 HO8 HRB8 HRN8;generalize ((((W8.setCell ⟨Px,0,none⟩ (.int .i64 nn)).setCell ⟨Px,1,none⟩ (.int .i64 sn)).setCell ⟨Px,2,none⟩ (.int .i64 x.entry)).setCell ⟨Px,3,none⟩ (.int .i64 vj))=W9 at*;go_upto_region 16 with(fail);have hx0:=HX9.out.cell 0 rfl;have hx1:=HX9.out.cell 1 rfl;have hx2:=HX9.out.cell 2 rfl;have hx3:=HX9.out.cell 3 rfl;have hx4:=HX9.out.cell 4 rfl;have hx5:=HX9.out.cell 5 rfl;obtain⟨fn,tmps,assign,bodyc,hy,hR⟩:=HY.out pre3 M3 R3 ⟨nn,sn,x.entry,vj,p.body,p.notes,Ab9,cb9,An9,cn9⟩ W9 _ HA9.out.j HA9.out.old.size HLEN.out HPR.out (fun i hi _=>⟨by have:=hi.1;have:=HZ3.out;omega,hi.2.1⟩);unfold PV.enc at hy;dsimp only at hy;refine(wpIn_wide (n:=n+1)).1 ?_;gi_wp2;refine hR.mono ?_;have HW9:=Lh HA9.out.lab.lt;clear hR hy hx0 hx1 hx2 hx3 hx4 hx5;rintro e W10 (⟨rfl,M',R',hJ9,hK9,hM9,hR9⟩|⟨rfl,hJx9⟩)
        ·have HA10:=Lh (HA9.out.went hJ9 hK9 hM9 hR9 (fun h=>by have:=h.1;have:=HZ3.out;omega));have HY10:Hid (ABox W10 Sx 74 [.int .i64 x.entry,.bool x.frozen,.slice (some ⟨bv,ov,none⟩) x.vers.length cg,.slice (some ⟨b2,o2,none⟩) x.texts.length cn]∧¬M' Sx):=Lh ⟨(hK9.block Sx (.inr ⟨HSX1.out,HMX.out⟩) HY9.out.lt).trans HY9.out,fun h=>(hM9 _ h).elim HMX.out (fun h=>by have:=HY9.out.lt;omega)⟩;have HO10:Hid (OwnP W10 wz.heap.size 43 (.slice (some ⟨b3,o3,none⟩) ps.length c5) ps (fun b=>wz.heap.size≤b∧¬M' b)):=Lh ((HO9.out.kept (fun i hi hil=>hK9.block i (.inr ⟨by have:=hi.1;have:=HZ3.out;omega,hi.2.1⟩) hil)).mono (fun i hi _=>⟨hi.1,fun h=>(hM9 _ h).elim hi.2.1 (fun h=>by have:=hi.2.2;have:=HX9.out.lt;omega)⟩))
         have HEQ5:Hid ((pre3++[(⟨nn,sn,x.entry,vj,p.body,p.notes,Ab9,cb9,An9,cn9⟩:PV)]).map PV.plain++(QaQ x.entry vj nn sn j (ps.drop (q+1))++(QaJ m h x.entry (j+1) numE sufE (x.vers.drop (j+1)) (x.texts.drop (j+1))++Qay m h (num0+QaE m h x) (ls.drop (k+1))))=Qak m h ls):=Lh (by
          rw[List.map_append,List.append_assoc];exact HEQ4.out)
         have HB5:Hid ((0≤nn∧nn≤(pre3++[(⟨nn,sn,x.entry,vj,p.body,p.notes,Ab9,cb9,An9,cn9⟩:PV)]).length)∧(0≤sn∧sn≤(pre3++[(⟨nn,sn,x.entry,vj,p.body,p.notes,Ab9,cb9,An9,cn9⟩:PV)]).length)):=Lh (by
          rw[qA,List.length_singleton];have:=HNB.out;omega)
         clear hJ9 hK9 hM9 hR9 HA9 HY9 HX9 HO9 HPR;gi_wp2;go_wp2_with fail;go_roundw;(case rel=>exact⟨q+1,nn,sn,_,M',R',by omega,by go_num,HA10,HY10,HO10,HEQ5,HB5,HNS4⟩);case measure=>(first|(simp[intOf];done)|(simp[intOf];omega))
        ·gi_wp2;go_wp2_with fail;refine bodyPost_ret (results_none rfl _ _ _) rfl ?_;refine⟨⟨_,rfl⟩,.inr ⟨_,⟨pre3.length+1,?_⟩,hJx9⟩⟩;rw[←HEQ4.out,List.take_append];simp[PV.plain];rw[List.take_of_length_le (by rw[qM];omega)]
       ·have hjb:((j:Int)==0)=false:=by rw[beq_eq_false_iff_ne];omega
        have HEQ4:Hid (pre3.map PV.plain++((⟨num,(suf+1),x.entry,vj,p.body,p.notes⟩:PageP)::(QaQ x.entry vj num (suf+1) j (ps.drop (q+1))++(QaJ m h x.entry (j+1) numE sufE (x.vers.drop (j+1)) (x.texts.drop (j+1))++Qay m h (num0+QaE m h x) (ls.drop (k+1)))))=Qak m h ls):=Lh (by
         have h1:=HEQ3.out
         rw[if_neg hj9,if_neg hj9] at h1
         exact h1)
        have HNS4:Hid (num=(if j=0 then numS+((q+1:Nat):Int) else numS)∧(suf+1)=(if j=0 then sufS else sufS+((q+1:Nat):Int))):=Lh (by
         have h1:=HNS.out
         rw[if_neg hj9,if_neg hj9] at h1
         rw[if_neg hj9,if_neg hj9]
         omega)
        clear hj9;go_upto_region 15 with(fail);have HA7:=Lh (HAX.out.setSuf HJ.out hn (suf+1));have HY7:=Lh (HYX.out.other (show Sx≠Lab by have:=HSX1.out;have:=HSLT.out;omega) 1 (.int .i64 (suf+1)));have HX7:=Lh (HXX.out.other (show Px≠Lab by have:=HPL.out;omega) 1 (.int .i64 (suf+1)));have HO7:=Lh (HOX.out.set Lab 1 (.int .i64 (suf+1)) (fun i hi e=>by have:=hi.1;have:=HZ3.out;omega));have HRB7:=Lh (Rep.keep HRBX.out (KS.setCell (l:=Lab) 1 (.int .i64 (suf+1)) (fun(e:wz.heap.size≤Lab∧_)=>by have:=e.1;have:=HZ3.out;omega)).kept);have HRN7:=Lh (Rep.keep HRNX.out (KS.setCell (l:=Lab) 1 (.int .i64 (suf+1)) (fun(e:wz.heap.size≤Lab∧_)=>by have:=e.1;have:=HZ3.out;omega)).kept);clear hl0 hf0 hl1 hf1 HAX HYX HXX HOX HRBX HRNX HEQ3;generalize wx.setCell ⟨Lab,1,none⟩ (.int .i64 (suf+1))=w7 at*;obtain⟨nn,hnn⟩:∃nn,num=nn:=⟨_,rfl⟩;obtain⟨sn,hsn⟩:∃sn,(suf+1)=sn:=⟨_,rfl⟩;have HNB:Hid ((0≤nn∧nn≤pre3.length+1)∧(0≤sn∧sn≤pre3.length+1)):=Lh (by have:=HB.out;omega);rw[hnn] at HA7 HEQ4 HNS4;rw[hsn] at HA7 HEQ4 HNS4;clear hnn hsn;have hszv:n₀≤w7.heap.size:=(by have:=HA7.out.old.size;omega);have HVr:Hid (Sl w7 (fun b=>b<n₀) Ag cg x.vers):=Lh (HVS.out.old HA7.out.old.kept hszv);obtain⟨bv,ov,hAg,hbv,-,-,cv⟩:=Qcf HVr.out hjv;subst hAg;have hvc:x.vers.length≤cg:=HVr.out.1;have hvj2:x.vers[j]=vj:=(by have h:=HVJ.out;rw[qG hjv] at h;exact Option.some.inj h);rw[hvj2] at cv;clear hvj2 HVr;have hjvI:(j:Int)<(x.vers.length:Int):=by omega
        refine Qaj (fun w'=>w'.cell? ⟨Lab,0,none⟩=some (.int .i64 nn)∧w'.cell? ⟨Lab,1,none⟩=some (.int .i64 sn)∧w'.cell? ⟨Sx,0,none⟩=some (.int .i64 x.entry)∧w'.cell? ⟨Sx,2,none⟩=some (.slice (some ⟨bv,ov,none⟩) x.vers.length cg)∧w'.cell? ⟨bv,ov+j,none⟩=some (.int .i64 vj)) (fun i=>decide (i<13)) (by kernel_rfl) ?_;have hbz:Below w7.heap.size w7 w7.drew:=bR.drew;have HA8:=Lh (HA7.out.to HJ.out hbz);have HY8:=Lh (HY7.out.to hbz);have HX8:=Lh (HX7.out.to hbz);have HO8:=Lh (HO7.out.below hbz);have HRB8:=Lh (Rep.keep HRB7.out (Kept.all hbz));have HRN8:=Lh (Rep.keep HRN7.out (Kept.all hbz));have cv8:w7.drew.cell? ⟨bv,ov+j,none⟩=some (.int .i64 vj):=cv;clear hbz HA7 HY7 HX7 HO7 HRB7 HRN7 cv;generalize w7.drew=W8 at*;have hS0:W8.cell? ⟨Lab,0,none⟩=some (.int .i64 nn)∧W8.cell? ⟨Lab,1,none⟩=some (.int .i64 sn)∧W8.cell? ⟨Sx,0,none⟩=some (.int .i64 x.entry)∧W8.cell? ⟨Sx,2,none⟩=some (.slice (some ⟨bv,ov,none⟩) x.vers.length cg)∧W8.cell? ⟨bv,ov+j,none⟩=some (.int .i64 vj):=
         ⟨HA8.out.lab.cell 0 rfl,HA8.out.lab.cell 1 rfl,HY8.out.cell 0 rfl,HY8.out.cell 2 rfl,cv8⟩
        have HSP:Hid (∀W,KS (fun i=>i≠Px) W8 W→W.cell? ⟨Lab,0,none⟩=some (.int .i64 nn)∧W.cell? ⟨Lab,1,none⟩=some (.int .i64 sn)∧W.cell? ⟨Sx,0,none⟩=some (.int .i64 x.entry)∧W.cell? ⟨Sx,2,none⟩=some (.slice (some ⟨bv,ov,none⟩) x.vers.length cg)∧W.cell? ⟨bv,ov+j,none⟩=some (.int .i64 vj)):=Lh (fun W hW=>by
         have e1:Lab≠Px:=(by have:=HPL.out;omega)
         have e2:Sx≠Px:=(by have:=HPL.out;omega)
         have e3:bv≠Px:=(by have:=HPL.out;have:=HZ3.out;have:=hbv;have:=hn;omega)
         exact⟨hW.kept.cell e1 hS0.1,hW.kept.cell e1 hS0.2.1,hW.kept.cell e2 hS0.2.2.1,hW.kept.cell e2 hS0.2.2.2.1,hW.kept.cell e3 hS0.2.2.2.2⟩)
        clear cv8;refine tE 0 ⟨some 54,Op.load 40 (.tmp 3),40,_,_,_⟩ ?_ rfl ?zq22 (hS0) ?zq23;(case zq22=>intro wS hSw;(have hq:=hSw.1);(have hq2:=hSw.2.1);clear hSw;go_simp;(try with_reducible rfl));(all_goals try go_frame);refine tE 1 ⟨some 55,Op.fieldAddr 74 (.tmp 5) 0,0,_,_,_⟩ ?_ rfl ?zq24 (hS0) ?zq25;(case zq24=>intro _ s;clear s;go_simp;(try with_reducible rfl));(all_goals try go_frame);refine tE 2 ⟨some 56,Op.load 3 (.tmp 55),3,_,_,_⟩ ?_ rfl ?zq26 (hS0) ?zq27;(case zq26=>intro wS hSw;(have hq:=hSw.2.2.1);clear hSw;go_simp;(try with_reducible rfl));(all_goals try go_frame);refine tE 3 ⟨some 57,Op.fieldAddr 74 (.tmp 5) 2,0,_,_,_⟩ ?_ rfl ?zq28 (hS0) ?zq29;(case zq28=>intro _ s;clear s;go_simp;(try with_reducible rfl));(all_goals try go_frame);refine tE 4 ⟨some 58,Op.load 22 (.tmp 57),22,_,_,_⟩ ?_ rfl ?zq30 (hS0) ?zq31;(case zq30=>intro wS hSw;(have hq:=hSw.2.2.2.1);clear hSw;go_simp;(try with_reducible rfl));(all_goals try go_frame);refine tE 5 ⟨some 59,Op.move (.tmp 6),3,_,_,_⟩ ?_ rfl ?zq32 (hS0) ?zq33;(case zq32=>intro _ s;clear s;go_simp;(try with_reducible rfl));(all_goals try go_frame);refine tE 6 ⟨some 60,Op.indexAddr 22 (.tmp 58) (.tmp 59),0,_,_,_⟩ ?_ rfl ?zq34 (hS0) ?zq35;(case zq34=>intro _ s;clear s;go_simp;(try with_reducible rfl));(all_goals try go_frame);refine tE 7 ⟨some 61,Op.load 3 (.tmp 60),3,_,_,_⟩ ?_ rfl ?zq36 (hS0) ?zq37;(case zq36=>intro wS hSw;(have hq:=hSw.2.2.2.2);clear hSw;go_simp;(try with_reducible rfl));(all_goals try go_frame);refine tE 8 ⟨some 62,Op.fieldAddr 43 (.tmp 11) 0,0,_,_,_⟩ ?_ rfl ?zq38 (hS0) ?zq39;(case zq38=>intro _ s;clear s;go_simp;(try with_reducible rfl));(all_goals try go_frame);refine tD 9 ⟨none,Op.store 40 (.tmp 62) (.tmp 54),0,_,_,_⟩ rfl fun K hK=>?_
        have x0:=HX8.out.cell 0 rfl;have y0:=HX8.out.fz 0;have x1:=(HX8.out.set 0 (.int .i64 nn)).cell 1 rfl;have y1:=(HX8.out.set 0 (.int .i64 nn)).fz 1;go_simp;clear x0 y0 x1 y1;refine hK _ _ (fun _=>?_) ?_
        ·exact(HSP.out _ ((KS.setCell _ _ (fun h=>h rfl)).trans (KS.setCell _ _ (fun h=>h rfl))))
        clear hK K;(try simp only[Act.put]);refine tE 10 ⟨some 63,Op.fieldAddr 43 (.tmp 11) 1,0,_,_,_⟩ ?_ rfl ?zq40 ((HSP.out _ ((KS.setCell _ _ (fun h=>h rfl)).trans (KS.setCell _ _ (fun h=>h rfl))))) ?zq41;(case zq40=>intro _ s;clear s;go_simp;(try with_reducible rfl));(all_goals try go_frame);refine tD 11 ⟨none,Op.store 3 (.tmp 63) (.tmp 56),0,_,_,_⟩ rfl fun K hK=>?_
        have x2:=((HX8.out.set 0 (.int .i64 nn)).set 1 (.int .i64 sn)).cell 2 rfl;have y2:=((HX8.out.set 0 (.int .i64 nn)).set 1 (.int .i64 sn)).fz 2;go_simp;clear x2 y2;refine hK _ _ (fun _=>?_) ?_
        ·exact(HSP.out _ (((KS.setCell _ _ (fun h=>h rfl)).trans (KS.setCell _ _ (fun h=>h rfl))).trans (KS.setCell _ _ (fun h=>h rfl))))
        clear hK K;(try simp only[Act.put]);refine tE 12 ⟨some 64,Op.fieldAddr 43 (.tmp 11) 2,0,_,_,_⟩ ?_ rfl ?zq42 ((HSP.out _ (((KS.setCell _ _ (fun h=>h rfl)).trans (KS.setCell _ _ (fun h=>h rfl))).trans (KS.setCell _ _ (fun h=>h rfl))))) ?zq43;(case zq42=>intro _ s;clear s;go_simp;(try with_reducible rfl));(all_goals try go_frame);refine tD 13 ⟨none,Op.store 3 (.tmp 64) (.tmp 61),0,_,_,_⟩ rfl fun K hK=>?_
        have x3:=(((HX8.out.set 0 (.int .i64 nn)).set 1 (.int .i64 sn)).set 2 (.int .i64 x.entry)).cell 3 rfl;have y3:=(((HX8.out.set 0 (.int .i64 nn)).set 1 (.int .i64 sn)).set 2 (.int .i64 x.entry)).fz 3;go_simp;clear x3 y3;refine hK _ _ (fun h=>absurd h (by decide)) ?_;clear hK K;(try simp only[Act.put]);refine Qae (by kernel_rfl) ?_ _;unfold Exit.then;have hpn1:W0.heap.size≤Px:=(by have:=HPL.out;have:=HZ3.out;omega);have hpn2:Px≠Lab:=by have:=HPL.out;omega
        have HA9:=Lh ((((HA8.out.set HJ.out hn hpn1 hpn2 HRP.out 0 (.int .i64 nn)).set HJ.out hn hpn1 hpn2 HRP.out 1 (.int .i64 sn)).set HJ.out hn hpn1 hpn2 HRP.out 2 (.int .i64 x.entry)).set HJ.out hn hpn1 hpn2 HRP.out 3 (.int .i64 vj));have e2:Sx≠Px:=(by have:=HPL.out;omega);have HY9:=Lh ((((HY8.out.other e2 0 (.int .i64 nn)).other e2 1 (.int .i64 sn)).other e2 2 (.int .i64 x.entry)).other e2 3 (.int .i64 vj));have HX9:Hid (ABox ((((W8.setCell ⟨Px,0,none⟩ (.int .i64 nn)).setCell ⟨Px,1,none⟩ (.int .i64 sn)).setCell ⟨Px,2,none⟩ (.int .i64 x.entry)).setCell ⟨Px,3,none⟩ (.int .i64 vj)) Px 43 [.int .i64 nn,.int .i64 sn,.int .i64 x.entry,.int .i64 vj,.slice Ab9 p.body.length cb9,.slice An9 p.notes.length cn9]):=Lh (by have h9:=(((HX8.out.set 0 (.int .i64 nn)).set 1 (.int .i64 sn)).set 2 (.int .i64 x.entry)).set 3 (.int .i64 vj);simpa using h9);have hks:KS (fun b=>wz.heap.size≤b∧¬M3 b∧b<Px) W8 ((((W8.setCell ⟨Px,0,none⟩ (.int .i64 nn)).setCell ⟨Px,1,none⟩ (.int .i64 sn)).setCell ⟨Px,2,none⟩ (.int .i64 x.entry)).setCell ⟨Px,3,none⟩ (.int .i64 vj)):=((KS.setCell _ _ (fun h=>by have:=h.2.2;omega)).trans (KS.setCell _ _ (fun h=>by have:=h.2.2;omega))).trans (KS.setCell _ _ (fun h=>by have:=h.2.2;omega)) |>.trans (KS.setCell _ _ (fun h=>by have:=h.2.2;omega));have HO9:=Lh (HO8.out.kept hks.kept);have HPR:Hid (PV.Pr (fun b=>wz.heap.size≤b∧¬M3 b∧b<Px) ⟨nn,sn,x.entry,vj,p.body,p.notes,Ab9,cb9,An9,cn9⟩ ((((W8.setCell ⟨Px,0,none⟩ (.int .i64 nn)).setCell ⟨Px,1,none⟩ (.int .i64 sn)).setCell ⟨Px,2,none⟩ (.int .i64 x.entry)).setCell ⟨Px,3,none⟩ (.int .i64 vj))):=Lh ⟨Rep.keep HRB8.out hks.kept,Rep.keep HRN8.out hks.kept,HSMP.out⟩;clear hks hS0 HSP HA8 HY8 HX8 HO8 HRB8 HRN8;generalize ((((W8.setCell ⟨Px,0,none⟩ (.int .i64 nn)).setCell ⟨Px,1,none⟩ (.int .i64 sn)).setCell ⟨Px,2,none⟩ (.int .i64 x.entry)).setCell ⟨Px,3,none⟩ (.int .i64 vj))=W9 at*;go_upto_region 16 with(fail);have hx0:=HX9.out.cell 0 rfl;have hx1:=HX9.out.cell 1 rfl;have hx2:=HX9.out.cell 2 rfl;have hx3:=HX9.out.cell 3 rfl;have hx4:=HX9.out.cell 4 rfl;have hx5:=HX9.out.cell 5 rfl;obtain⟨fn,tmps,assign,bodyc,hy,hR⟩:=HY.out pre3 M3 R3 ⟨nn,sn,x.entry,vj,p.body,p.notes,Ab9,cb9,An9,cn9⟩ W9 _ HA9.out.j HA9.out.old.size HLEN.out HPR.out (fun i hi _=>⟨by have:=hi.1;have:=HZ3.out;omega,hi.2.1⟩);unfold PV.enc at hy;dsimp only at hy;refine(wpIn_wide (n:=n+1)).1 ?_;gi_wp2;refine hR.mono ?_;have HW9:=Lh HA9.out.lab.lt;clear hR hy hx0 hx1 hx2 hx3 hx4 hx5;rintro e W10 (⟨rfl,M',R',hJ9,hK9,hM9,hR9⟩|⟨rfl,hJx9⟩)
        ·have HA10:=Lh (HA9.out.went hJ9 hK9 hM9 hR9 (fun h=>by have:=h.1;have:=HZ3.out;omega));have HY10:Hid (ABox W10 Sx 74 [.int .i64 x.entry,.bool x.frozen,.slice (some ⟨bv,ov,none⟩) x.vers.length cg,.slice (some ⟨b2,o2,none⟩) x.texts.length cn]∧¬M' Sx):=Lh ⟨(hK9.block Sx (.inr ⟨HSX1.out,HMX.out⟩) HY9.out.lt).trans HY9.out,fun h=>(hM9 _ h).elim HMX.out (fun h=>by have:=HY9.out.lt;omega)⟩;have HO10:Hid (OwnP W10 wz.heap.size 43 (.slice (some ⟨b3,o3,none⟩) ps.length c5) ps (fun b=>wz.heap.size≤b∧¬M' b)):=Lh ((HO9.out.kept (fun i hi hil=>hK9.block i (.inr ⟨by have:=hi.1;have:=HZ3.out;omega,hi.2.1⟩) hil)).mono (fun i hi _=>⟨hi.1,fun h=>(hM9 _ h).elim hi.2.1 (fun h=>by have:=hi.2.2;have:=HX9.out.lt;omega)⟩))
         have HEQ5:Hid ((pre3++[(⟨nn,sn,x.entry,vj,p.body,p.notes,Ab9,cb9,An9,cn9⟩:PV)]).map PV.plain++(QaQ x.entry vj nn sn j (ps.drop (q+1))++(QaJ m h x.entry (j+1) numE sufE (x.vers.drop (j+1)) (x.texts.drop (j+1))++Qay m h (num0+QaE m h x) (ls.drop (k+1))))=Qak m h ls):=Lh (by
          rw[List.map_append,List.append_assoc];exact HEQ4.out)
         have HB5:Hid ((0≤nn∧nn≤(pre3++[(⟨nn,sn,x.entry,vj,p.body,p.notes,Ab9,cb9,An9,cn9⟩:PV)]).length)∧(0≤sn∧sn≤(pre3++[(⟨nn,sn,x.entry,vj,p.body,p.notes,Ab9,cb9,An9,cn9⟩:PV)]).length)):=Lh (by
          rw[qA,List.length_singleton];have:=HNB.out;omega)
         clear hJ9 hK9 hM9 hR9 HA9 HY9 HX9 HO9 HPR;gi_wp2;go_wp2_with fail;go_roundw;(case rel=>exact⟨q+1,nn,sn,_,M',R',by omega,by go_num,HA10,HY10,HO10,HEQ5,HB5,HNS4⟩);case measure=>(first|(simp[intOf];done)|(simp[intOf];omega))
        ·gi_wp2;go_wp2_with fail;refine bodyPost_ret (results_none rfl _ _ _) rfl ?_;refine⟨⟨_,rfl⟩,.inr ⟨_,⟨pre3.length+1,?_⟩,hJx9⟩⟩;rw[←HEQ4.out,List.take_append];simp[PV.plain];rw[List.take_of_length_le (by rw[qM];omega)]
      ·have hqe:q=ps.length:=by omega
       have HEQ4:Hid (pre3.map PV.plain++(QaJ m h x.entry (j+1) num suf (x.vers.drop (j+1)) (x.texts.drop (j+1))++Qay m h (num0+QaE m h x) (ls.drop (k+1)))=Qak m h ls):=Lh (by
        have h1:=HEQ.out
        have h2:=HNS.out
        rw[hqe,List.drop_length,QaQ,List.nil_append] at h1
        rw[hqe,HNE.out,HSE.out] at h2
        rw[h2.1,h2.2]
        exact h1)
       have HNM4:Hid ((j+1=0→num=num0)∧(0<j+1→num=num0+QaE m h x)):=Lh ⟨fun h=>absurd h (by omega),fun _=>by
        have h2:=HNS.out.1
        rw[hqe] at h2
        by_cases hj0:j=0
        ·rw[if_pos hj0] at h2
         rw[h2,HNM.out.1 hj0,HPLB.out hj0]
        ·rw[if_neg hj0] at h2
         rw[h2];exact HNM.out.2 (by omega)⟩
       clear hqe;go_wp2_with fail;go_roundw;(case rel=>exact⟨j+1,num,suf,pre3,M3,R3,by omega,by go_num,HAI,HYS,HEQ4,HB,HNM4⟩);case measure=>(first|(simp[intOf];done)|(simp[intOf];omega))
    ·have HEQ3:Hid (pre2.map PV.plain++Qay m h numS (ls.drop (k+1))=Qak m h ls):=Lh (by
      have h1:=HEQ.out
      rw[List.drop_of_length_le (show x.texts.length≤j by omega),QaJ,List.nil_append] at h1
      have h2:numS=num0+QaE m h x:=by
       by_cases hj0:j=0
       ·have h3:x.texts=[]:=List.eq_nil_of_length_eq_zero (by omega)
        rw[HNM.out.1 hj0];unfold QaE;rw[h3];simp
       ·exact HNM.out.2 (by omega)
      rw[h2];exact h1)
     go_wp2_with fail;go_roundw;(case rel=>exact⟨k+1,numS,sufS,pre2,M2,R2,by omega,by go_num,HAI,HEQ3,Lh HB.out.1⟩);case measure=>(first|(simp[intOf];done)|(simp[intOf];omega))
  ·have HD:Hid (pre.map PV.plain=Qak m h ls):=Lh (by
    have:=HEQ.out
    rw[List.drop_of_length_le (by omega),Qay,List.append_nil] at this
    exact this)
   go_wp2_with fail;go_end0;exact⟨⟨_,rfl⟩,.inl ⟨pre,HD.out,M,R,HAI.out.j⟩⟩
end Go.Proofs.YtegaapiocihcpaaGreatDoor
