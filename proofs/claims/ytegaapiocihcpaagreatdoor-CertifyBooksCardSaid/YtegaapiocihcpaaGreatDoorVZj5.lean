/- Texts of CbC. -/
import Derived.Test.YtegaapiocihcpaaGreatDoorVZj4
import Derived.Lib.ItoaNum
import Derived.Deep.MidRow
import Derived.Laws.EntriesVeiled
set_option maxHeartbeats 4000000
namespace Go.Proofs.YtegaapiocihcpaaGreatDoor
open Go.RowKit
def Qam (n:Nat):Nat:=2^(Lib.bitLen (n-1)-1)
theorem QaD (n:Nat)(h2:2≤n)(h:n≤4611686018427387904):1≤Lib.bitLen (n-1)∧Lib.bitLen (n-1)≤62∧1≤Qam n∧Qam n<n∧n≤2*Qam n:=by
 obtain⟨h1,h3,h4⟩:=Lib.bitLenAux_bounds 64 (n-1) (by omega) (by omega);change 1≤Lib.bitLen (n-1) at h1;change 2^(Lib.bitLen (n-1)-1)≤n-1 at h3;change n-1<2^Lib.bitLen (n-1) at h4;have h5:=Lib.bitLen_le (n-1) 62 (by omega) (by omega);have h6:2^Lib.bitLen (n-1)=2*2^(Lib.bitLen (n-1)-1):=by
  obtain⟨j,hj⟩:∃j,Lib.bitLen (n-1)=j+1:=⟨Lib.bitLen (n-1)-1,by omega⟩;rw[hj,Nat.pow_succ];simp[Nat.mul_comm]
 unfold Qam;refine⟨h1,h5,Nat.one_le_two_pow,by omega,by omega⟩
theorem QeY (n:Nat)(h2:2≤n)(h:n≤1073741824)(w:World):Calls Tryz.prog 152 #[.int .i64 (n:Int)] w fun e w'=>e=.returned (.int .i64 (Qam n:Int))∧w=w':=by
 obtain⟨h1,h3,h4,h5,h6⟩:=QaD n h2 (by omega);have HL:=bits_Len ((n:Int)-1) w (by omega) (by omega);have e1:((n:Int)-1).toNat=n-1:=by omega
 rw[e1] at HL;unfold Qam at h4 h5 h6 ⊢;generalize Lib.bitLen (n-1)=j at*;have hn0:(0:Int)≤(n:Int)-1:=by omega
 go_enter Tryz.func152,Tryz.ntmps152;go_wp2_with (first|(go_at_call 186;refine HL.mono ?_;rintro e w' ⟨rfl,rfl⟩)|fail);have e2:((2^(j-1):Nat):Int)=(2:Int)^(j-1):=by push_cast;rfl
 go_ret;refine⟨Qas ?_,rfl⟩;rw[←e2];generalize 2^(j-1)=p at*;unfold wrap64;omega
def Qbj:Nat→List H32→List UInt8
 |0,_=>sha []
 |f+1,l=>if l.length=0 then sha [] else if l.length=1 then((l[0]?).map (·.l)).getD [] else nodeH (Qbj f (l.take (Qam l.length))) (Qbj f (l.drop (Qam l.length)))
def root (l:List H32):List UInt8:=Qbj l.length l
theorem QcA:∀(f g:Nat) (l:List H32),l.length≤f→l.length≤g→l.length≤1073741824→Qbj f l=Qbj g l
 |0,0,_,_,_,_=>rfl
 |0,g+1,l,h,_,_=>by rw[Qbj,Qbj,if_pos (by omega)]
 |f+1,0,l,_,h,_=>by rw[Qbj,Qbj,if_pos (by omega)]
 |f+1,g+1,l,hf,hg,hl=>by
  rw[Qbj,Qbj];split
  ·rfl
  ·split
   ·rfl
   ·obtain⟨_,_,h1,h2,_⟩:=QaD l.length (by omega) (by omega)
    rw[QcA f g _ (by rw[qK];omega) (by rw[qK];omega) (by rw[qK];omega),QcA f g (l.drop _) (by rw[List.length_drop];omega) (by rw[List.length_drop];omega) (by rw[List.length_drop];omega)]
theorem root_node (l:List H32)(h2:2≤l.length)(h:l.length≤1073741824):root l=nodeH (root (l.take (Qam l.length))) (root (l.drop (Qam l.length))):=by
 obtain⟨_,_,h3,h4,_⟩:=QaD l.length h2 (by omega);obtain⟨f,hf⟩:∃f,l.length=f+1:=⟨l.length-1,by omega⟩;unfold root;conv=>lhs;rw[hf,Qbj,if_neg (by omega),if_neg (by omega)]
 rw[QcA f _ (l.take _) (by rw[qK];omega) nL (by rw[qK];omega),QcA f _ (l.drop _) (by rw[List.length_drop];omega) nL (by rw[List.length_drop];omega)]
theorem QbY:∀(f:Nat) (l:List H32),(∀x∈l,x.l.length=32)→(Qbj f l).length=32
 |0,_,_=>Qan _
 |f+1,l,h=>by
  rw[Qbj];split
  ·exact Qan _
  ·split
   ·obtain⟨x,hx⟩:∃x,l=[x]:=List.length_eq_one_iff.1 (by assumption);subst hx;exact h x (by simp)
   ·exact Qan _
theorem h32_len {w:World}{S:Nat→Prop}{A:Option Addr}{c:Nat}{l:List H32}(h:Sl w S A c l):∀x∈l,x.l.length=32:=by
 intro x hx;obtain⟨i,hi,rfl⟩:=List.getElem_of_mem hx;obtain⟨_,_,_,_,_,_,⟨_,hl⟩,_⟩:=h.at_ hi;exact hl
set_option maxRecDepth 100000 in
theorem root0_any (A:Option Addr)(c:Nat)(w:World)(hK:KLaid w):
 Calls Tryz.prog 109 #[.slice A 0 c] w fun e w'=>e=.returned (Qar (sha []))∧Below w.heap.size w w':=by
 have HS:=Lh (sum_any [] none 0 0 (w.alloc (.cells (Qaf.map Qab).toArray 101)) (Sl.nil _ _ _ _ (by decide)) rfl (by simp) (hK.to (bR.alloc nL _)));have HR0:Hid (ABoxZ (w.alloc (.cells (Qaf.map Qab).toArray 101)) w.heap.size 101 (Qaf.map Qab)):=Lh (heap_alloc_new w _);have HB0:Hid (Below w.heap.size w (w.alloc (.cells (Qaf.map Qab).toArray 101))):=Lh (bR.alloc nL _);go_enter Tryz.func109,Tryz.ntmps109;go_upto_region 3 with(fail);generalize hw1:World.alloc w _=w1;have hw2:w.alloc (.cells (Qaf.map Qab).toArray 101)=w1:=hw1;rw[hw2] at HS HR0 HB0;clear hw1 hw2;go_wp2_with fail;refine HS.out.mono ?_;rintro e w4 ⟨rfl,hb4⟩;have HB4:=Lh (Qax (HB0.out.trans (hb4.mono HB0.out.size)) (R:=w.heap.size) nL ((sha []).map Qab).toArray);have hr4:w4.heap[w.heap.size]? =some (.cells (Qaf.map Qab).toArray 101 (0,0)):=HR0.out.to hb4;have HX:=Lh (setRow_heap w4 w.heap.size _ ((sha []).map Qab).toArray _ _ hr4);have HSZ:=Lh (QaB (Qan []));have HC1:=Lh (QaH (sha []));have HRZ:Hid ((Qaf.map Qab).toArray.size=32):=Lh rfl;clear hb4 HR0 HB0 HS;have HRE:Hid (Qar (sha [])=.agg ((sha []).map Qab).toArray):=Lh rfl;unfold Qar;generalize ((sha []).map Qab).toArray=cs at*;generalize (Qaf.map Qab).toArray=zs at*
 go_wp2_with (first|(refine wpList_store_row rfl 101 (.tmp 2) (.tmp 8) rfl w.heap.size cs rfl rfl 101 zs hr4 (by rw[HSZ.out];kernel_rfl) (by rw[HRZ.out,HSZ.out]) HC1.out ?_)|fail)
 exact bodyPost_ret (v:=.agg cs) (results_cell_row Tryz.results109 _ _ w.heap.size _ cs (0,0) _ rfl HX.out Tryz.underlying101 rfl (by rw[HSZ.out];kernel_rfl)) rfl ⟨by rw[HRE.out],HB4.out⟩
set_option maxRecDepth 100000 in
theorem root1_any (x:H32)(A:Option Addr)(c:Nat)(w:World)(hl:Sl w (fun b=>b<w.heap.size) A c [x]):
 Calls Tryz.prog 109 #[.slice A 1 c] w fun e w'=>e=.returned (Qar x.l)∧Below w.heap.size w w':=by
 have hl1:=hl.to ((Below.refl w.heap.size w).alloc nL (.cells (Qaf.map Qab).toArray 101));obtain⟨b,o,rfl,_,hlt,hr,hxl⟩:=h32_at hl1 (k:=0) (by simp);simp only[Nat.zero_mul,Nat.add_zero,List.getElem_cons_zero] at hr hxl;have hc1:=hl.2.1;have hc2:=hl.1;simp only[qC,List.length_nil,Nat.zero_add] at hc2;unfold maxLen at hc1;have HR0:Hid (ABoxZ (w.alloc (.cells (Qaf.map Qab).toArray 101)) w.heap.size 101 (Qaf.map Qab)):=Lh (heap_alloc_new w _);have HB0:Hid (Below w.heap.size w (w.alloc (.cells (Qaf.map Qab).toArray 101))):=Lh (bR.alloc nL _);have HE:=Lh hr;have HSZ:=Lh (QaB hxl);have HSE:Hid ((x.l.map Qab).length=32):=Lh (by rw[qM,hxl]);have HC1:=Lh (QaH x.l);have HRZ:Hid ((Qaf.map Qab).toArray.size=32):=Lh rfl;have HRE:Hid (Qar x.l=.agg (x.l.map Qab).toArray):=Lh rfl;clear hl hl1 hr hlt;go_enter Tryz.func109,Tryz.ntmps109;go_upto_region 1 with(fail);generalize hw1:World.alloc w _=w1;have hw2:w.alloc (.cells (Qaf.map Qab).toArray 101)=w1:=hw1;rw[hw2] at HR0 HB0 HE;clear hw1 hw2;have HB4:=Lh (Qax HB0.out (R:=w.heap.size) nL (x.l.map Qab).toArray);have HX:=Lh (setRow_heap w1 w.heap.size _ (x.l.map Qab).toArray _ _ HR0.out);have hr4:w1.heap[w.heap.size]? =some (.cells (Qaf.map Qab).toArray 101 (0,0)):=HR0.out;clear HR0;generalize hcs:(x.l.map Qab)=cl at*;generalize hcs2:cl.toArray=cs at*;generalize (Qaf.map Qab).toArray=zs at*
 go_wp2_with (first|(refine wpList_load_mid rfl 101 (.tmp 12) rfl b o ?_ cl _ ?_ Tryz.underlying101 ?_ ?_ ?_;rfl;exact HE.out;rfl;(rw[HSE.out];kernel_rfl))|(refine wpList_store_row rfl 101 (.tmp 2) (.tmp 13) rfl w.heap.size cs ?_ ?_ 101 zs hr4 (by rw[HSZ.out];kernel_rfl) (by rw[HRZ.out,HSZ.out]) HC1.out ?_;rfl;(show Value.agg cl.toArray=Value.agg cs;rw[hcs2]))|fail)
 exact bodyPost_ret (v:=.agg cs) (results_cell_row Tryz.results109 _ _ w.heap.size _ cs (0,0) _ rfl HX.out Tryz.underlying101 rfl (by rw[HSZ.out];kernel_rfl)) rfl ⟨by rw[HRE.out],HB4.out⟩
theorem QeZ {w:World}{S:Nat→Prop}{b o c:Nat}{l:List H32}(h:Sl w S (some ⟨b,o,none⟩) c l)(k:Nat)(hk:k<l.length):Sl w S (some ⟨b,o+k*32,none⟩) (c-k) (l.drop k):=by
 have hd:=h.drop k (by omega);have hc:¬c=k:=by have:=h.1;omega
 have e:Option.map (fun x=>x.add (k*Rep.size H32)) (some (⟨b,o,none⟩:Addr))=some ⟨b,o+k*32,none⟩:=by rw[Option.map_some,Qaw];rfl
 rw[if_neg hc,e] at hd;exact hd
set_option maxRecDepth 100000 in
theorem root2_any (f:Nat)(ih:∀(l:List H32) (A:Option Addr) (n c:Nat) (w:World),l.length≤f→Sl w (fun b=>b<w.heap.size) A c l→l.length=n→n≤1073741824→KLaid w→ Calls Tryz.prog 109 #[.slice A n c] w fun e w'=>e=.returned (Qar (Qbj f l))∧Below w.heap.size w w') (l:List H32) (A:Option Addr) (n c:Nat) (w:World) (hf:l.length≤f+1) (hl:Sl w (fun b=>b<w.heap.size) A c l) (hn:l.length=n) (h2:2≤n) (hs:n≤1073741824) (hK:KLaid w):
 Calls Tryz.prog 109 #[.slice A n c] w fun e w'=>e=.returned (Qar (Qbj (f+1) l))∧Below w.heap.size w w':=by
 obtain⟨_,_,h3,h4,_⟩:=QaD n h2 (by omega);have HSP:=Lh (QeY n h2 hs);have HLen:=Lh (h32_len hl);have HRQ:Hid (Qbj (f+1) l=nodeH (Qbj f (l.take (Qam n))) (Qbj f (l.drop (Qam n)))):=Lh (by rw[Qbj,if_neg (by omega),if_neg (by omega),hn]);obtain⟨b,o,rfl,_⟩:=hl.2.2 (by omega);have hnc:n≤c:=by have:=hl.1;omega
 have hcm:c≤9223372036854775807:=by have:=hl.2.1;unfold maxLen at this;omega
 have HR0:Hid (ABoxZ (w.alloc (.cells (Qaf.map Qab).toArray 101)) w.heap.size 101 (Qaf.map Qab)):=Lh (heap_alloc_new w _);have HB0:Hid (Below w.heap.size w (w.alloc (.cells (Qaf.map Qab).toArray 101))):=Lh (bR.alloc nL _);have HL0:=Lh (hl.to ((Below.refl w.heap.size w).alloc nL (.cells (Qaf.map Qab).toArray 101)));have HK0:=Lh (hK.to ((Below.refl w.heap.size w).alloc nL (.cells (Qaf.map Qab).toArray 101)));have HI:=Lh ih;have HF:=Lh hf;have HN:=Lh hn;clear ih hl hK hf hn;generalize Qam n=k at*;go_enter Tryz.func109,Tryz.ntmps109;go_upto_region 1 with(fail);generalize hw1:World.alloc w _=w1;have hw2:w.alloc (.cells (Qaf.map Qab).toArray 101)=w1:=hw1;rw[hw2] at HR0 HB0 HL0 HK0;clear hw1 hw2
 go_upto_region 7 with(first|(go_at_call 152;refine(HSP.out _).mono ?_;rintro e w' ⟨rfl,rfl⟩)|fail)
 refine Qbt rfl (by kernel_rfl) (by kernel_rfl) ?_;intro T hT g hgb hgm;obtain⟨r1,hr1⟩:∃r,r=Qbj f (l.take k):=⟨_,rfl⟩;obtain⟨r2,hr2⟩:∃r,r=Qbj f (l.drop k):=⟨_,rfl⟩;obtain⟨r3,hr3⟩:∃r,r=Qbj (f+1) l:=⟨_,rfl⟩;have HR1:=Lh hr1;have HR2:=Lh hr2;have HR3:=Lh hr3;clear hr1 hr2 hr3
 have HT1:Hid (∀d,Calls Tryz.prog 109 #[.slice (some ⟨b,o,none⟩) k c] (g d) fun e w'=>e=.returned (Qar r1)∧∃m,w'=g m):=Lh (fun d=>by
  refine(HI.out (l.take k) (some ⟨b,o,none⟩) k c (g d) (by have:=HF.out;have:=HN.out;rw[qK];omega) ((HL0.out.to (hgb d)).take k (by have:=HN.out;omega)) (by have:=HN.out;rw[qK];omega) (by omega) (HK0.out.to (hgb d))).mono ?_
  rintro e w' ⟨rfl,hb⟩
  exact⟨by rw[HR1.out],hgm d w' hb⟩)
 have HT2:Hid (∀d,Calls Tryz.prog 109 #[.slice (some ⟨b,o+k*32,none⟩) (n-k) (c-k)] (g d) fun e w'=>e=.returned (Qar r2)∧∃m,w'=g m):=Lh (fun d=>by
  have hd:=QeZ (HL0.out.to (hgb d)) k (by have:=HN.out;omega)
  refine(HI.out (l.drop k) (some ⟨b,o+k*32,none⟩) (n-k) (c-k) (g d) (by have:=HF.out;have:=HN.out;rw[List.length_drop];omega) hd (by have:=HN.out;rw[List.length_drop];omega) (by omega) (HK0.out.to (hgb d))).mono ?_
  rintro e w' ⟨rfl,hb⟩
  exact⟨by rw[HR2.out],hgm d w' hb⟩)
 have HT3:Hid (∀d,Calls Tryz.prog 102 #[Qar r1,Qar r2] (g d) fun e w'=>e=.returned (Qar r3)∧∃m,w'=g m):=Lh (fun d=>by
  rw[HR3.out,HRQ.out,HR1.out,HR2.out]
  refine(Qd4 _ _ (QbY _ _ fun x hx=>HLen.out x (List.mem_of_mem_take hx)) (QbY _ _ fun x hx=>HLen.out x (List.mem_of_mem_drop hx)) (g d) (HK0.out.to (hgb d))).mono ?_
  rintro e w' ⟨rfl,hb⟩
  exact⟨rfl,hgm d w' hb⟩)
 have HRL:=Lh (QbY (f+1) l HLen.out);have HGB:=Lh hgb;clear hgb hgm HI HL0 HK0 HRQ;have HRL2:Hid (r3.length=32):=Lh (by rw[HR3.out];exact HRL.out);clear HRL HR1 HR2;dsimp only[List.dropLast]
 repeat(go_big_quiet_step (first|(go_at_call 109;with_reducible refine Calls.mono (HT1.out _) ?_;rintro e w6 ⟨rfl,hm⟩;exact⟨rfl,hm⟩)|(go_at_call 109;with_reducible refine Calls.mono (HT2.out _) ?_;rintro e w6 ⟨rfl,hm⟩;exact⟨rfl,hm⟩)|(go_at_call 102;with_reducible refine Calls.mono (HT3.out _) ?_;rintro e w6 ⟨rfl,hm⟩;exact⟨rfl,hm⟩)))
 refine wpQuiet_nil ?_;rintro _ ⟨d,rfl⟩;refine⟨rfl,?_⟩;have hr4:(g d).heap[w.heap.size]? =some (.cells (Qaf.map Qab).toArray 101 (0,0)):=HR0.out.to (HGB.out d);have HB4:=Lh (Qax (HB0.out.trans ((HGB.out d).mono HB0.out.size)) (R:=w.heap.size) nL (r3.map Qab).toArray);have HX:=Lh (setRow_heap (g d) w.heap.size _ (r3.map Qab).toArray _ _ hr4);have HSZ:=Lh (QaB HRL2.out);have HC1:=Lh (QaH r3);have HRZ:Hid ((Qaf.map Qab).toArray.size=32):=Lh rfl;have HRE:Hid (Qar r3=.agg (r3.map Qab).toArray):=Lh rfl;have hrv:Qar r3=.agg (r3.map Qab).toArray:=rfl;rw[hrv];clear HT1 HT2 HT3 HGB hrv;generalize (r3.map Qab).toArray=cs at*;generalize (Qaf.map Qab).toArray=zs at*;refine wp_store_row 101 (.tmp 2) (.tmp 25) rfl w.heap.size cs ?_ ?_ 101 zs hr4 (by rw[HSZ.out];kernel_rfl) (by rw[HRZ.out,HSZ.out]) HC1.out ?_
 ·rfl
 ·rfl
 unfold Exit.then;go_wp2_with fail;exact bodyPost_ret (v:=.agg cs) (results_cell_row Tryz.results109 _ _ w.heap.size _ cs (0,0) _ rfl HX.out Tryz.underlying101 rfl (by rw[HSZ.out];kernel_rfl)) rfl ⟨by rw[←HR3.out,HRE.out],HB4.out⟩
theorem rootF_any (f:Nat):∀(l:List H32) (A:Option Addr) (n c:Nat) (w:World),l.length≤f→Sl w (fun b=>b<w.heap.size) A c l→l.length=n→n≤1073741824→KLaid w→ Calls Tryz.prog 109 #[.slice A n c] w fun e w'=>e=.returned (Qar (Qbj f l))∧Below w.heap.size w w':=by
 induction f with
 |zero=>
  intro l A n c w hf hl hn hs hK;obtain rfl:n=0:=by omega
  exact root0_any A c w hK
 |succ f ih=>
  intro l A n c w hf hl hn hs hK;by_cases h0:n=0
  ·subst h0;have e:Qbj (f+1) l=sha []:=(by rw[Qbj,if_pos hn]);rw[e];exact root0_any A c w hK
  ·by_cases h1:n=1
   ·subst h1;obtain⟨x,rfl⟩:∃x,l=[x]:=List.length_eq_one_iff.1 hn;have e:Qbj (f+1) [x]=x.l:=(by rw[Qbj,if_neg (by simp),if_pos (by simp)];rfl);rw[e];exact root1_any x A c w hl
   ·exact root2_any f ih l A n c w hf hl hn (by omega) hs hK
theorem root_any (l:List H32)(A:Option Addr)(n c:Nat)(w:World)(hl:Sl w (fun b=>b<w.heap.size) A c l)(hn:l.length=n)(hs:n≤1073741824)(hK:KLaid w):
 Calls Tryz.prog 109 #[.slice A n c] w fun e w'=>e=.returned (Qar (root l))∧Below w.heap.size w w':=rootF_any l.length l A n c w nL hl hn hs hK
theorem Qbp (l:List H32)(h:∀x∈l,x.l.length=32):(root l).length=32:=QbY _ l h
theorem root_one (x:H32):root [x]=x.l:=by unfold root;rw[List.length_singleton,Qbj,if_neg (by simp),if_pos (by simp)];rfl
section
variable {P:Program} {ops:Array Oper} {Q:Exit→Act→World→Prop} {md:Region.Mode} {S:World→Prop} {hd hd':Nat→Bool}
theorem Qde:∀(fuel:Nat) (listed:Array Bool) (a:Act) (w:World),wpAnyD P md ops Q S hd fuel listed a w→wpAnyD P md ops Q (fun _=>True) hd' fuel listed a w
 |0,_,_,_,h=>h
 |fuel+1,_,_,_,h=>⟨h.1,fun i hi=>wpOp_mono (fun a' w' h'=>⟨fun _=>trivial,Qde fuel _ a' w' h'.2⟩) (h.2 i hi)⟩
end
def hAt (L:List H32)(i:Nat):List UInt8:=((L[i]?).map (·.l)).getD []
theorem hAt_eq (L:List H32)(i:Nat)(h:i<L.length):hAt L i=L[i].l:=by unfold hAt;rw[qG h];rfl
def rv (L:List H32)(n k i:Nat):List UInt8:=if i<k∨n≤i+k then hAt L (n-1-i) else hAt L i
structure RV (w0 wr:World)(g base:Nat)(L:List H32)(n k:Nat):Prop where
 c:∀i,i<n→wr.rangeAt g (i*32) ((rv L n k i).map Qab)
 t:∀i,i<n→wr.there g (i*32) 32
 b:Below base w0 wr
theorem QcL {base:Nat}{w0:World}{g:Nat}(hg:base≤g):∀(vs:List Value) (o:Nat) (wr:World),Below base w0 wr→Below base w0 (wr.setCells g o vs)
 |[],_,_,h=>h
 |v::vs,o,_,h=>QcL hg vs (o+1) _ (h.setCell (p:=⟨g,o,none⟩) hg v)
theorem RV.swap {w0 wr:World}{g base n k j:Nat}{L:List H32}(h:RV w0 wr g base L n k)(hl:∀i,i<n→(hAt L i).length=32)(hj:j+k+1=n)(hk:k<j)(hg:base≤g):
 RV w0 ((wr.setCells g (k*32) ((hAt L j).map Qab)).setCells g (j*32) ((hAt L k).map Qab)) g base L n (k+1):=by
 have lj:((hAt L j).map Qab).length=32:=by rw[qM];exact hl j (by omega)
 have lk:((hAt L k).map Qab).length=32:=by rw[qM];exact hl k (by omega)
 have lr:∀i,i<n→((rv L n k i).map Qab).length=32:=fun i hi=>by
  rw[qM];unfold rv;split
  ·exact hl _ (by omega)
  ·exact hl _ hi
 refine⟨fun i hi=>?_,fun i hi=>World.there_setCells (World.there_setCells (h.t i hi) _ _ _) _ _ _,QcL hg _ _ _ (QcL hg _ _ _ h.b)⟩;by_cases hik:i=k
 ·subst hik;have e:rv L n (i+1) i=hAt L j:=(by unfold rv;rw[if_pos (by omega)];congr 1;omega);rw[e];refine World.rangeAt_setCells_apart (World.rangeAt_setCells_same _ _ _ _ (by rw[lj];exact h.t i hi)) _ _ _ (.inr (.inl (by rw[lj];omega)))
 ·by_cases hij:i=j
  ·subst hij;have e:rv L n (k+1) i=hAt L k:=(by unfold rv;rw[if_pos (by omega)];congr 1;omega);rw[e];exact World.rangeAt_setCells_same _ _ _ _ (by rw[lk];exact World.there_setCells (h.t i hi) _ _ _)
  ·have e:rv L n (k+1) i=rv L n k i:=by
    unfold rv;by_cases hc:i<k∨n≤i+k
    ·rw[if_pos hc,if_pos (by omega)]
    ·rw[if_neg hc,if_neg (by omega)]
   rw[e];have hr:=h.c i hi;have l1:=lr i hi;refine World.rangeAt_setCells_apart (World.rangeAt_setCells_apart hr _ _ _ (.inr ?_)) _ _ _ (.inr ?_)
   ·rw[l1,lj];omega
   ·rw[l1,lk];omega
set_option maxRecDepth 100000 in
theorem rev0_any (A:Option Addr)(c:Nat)(w:World):Calls Tryz.prog 153 #[.slice A 0 c] w fun e w'=>e=.returned (.tuple #[])∧w=w':=by
 go_enter Tryz.func153,Tryz.ntmps153;go_wp2_with fail;refine wp_loop_rounds 1 ?_;rw[rounds_succ];go_wp2_with fail;go_end0;exact⟨rfl,rfl⟩
set_option maxRecDepth 100000 in
theorem rev_any (g base n c:Nat)(L:List H32)(w:World)(hg:base≤g)(h:RV w w g base L n 0)(hl:∀i,i<n→(hAt L i).length=32)(hn:n≤c)(hc:c≤9223372036854775807):
 Calls Tryz.prog 153 #[.slice (some ⟨g,0,none⟩) n c] w fun e w'=>e=.returned (.tuple #[])∧(∀i,i<n→w'.rangeAt g (i*32) ((hAt L (n-1-i)).map Qab))∧Below base w w':=by
 have HH:=Lh h;have HL:=Lh hl;have HG:=Lh hg;clear h hl hg;have hn63:(n:Int)≤9223372036854775807:=by omega
 go_enter Tryz.func153,Tryz.ntmps153;go_wp2_with fail;go_loopw [2,3] (fun i j wr=>∃k:Nat,2*k≤n∧i=.int .i64 (k:Int)∧j=.int .i64 ((n:Int)-1-(k:Int))∧Hid (RV w wr g base L n k)) (fun i _ _=>n-(intOf i).toNat);(case atStart=>exact⟨0,by omega,rfl,by simp,HH⟩);case round=>
  obtain⟨k,hk,rfl,rfl,HR⟩:=hrel;by_cases hkj:(k:Int)<(n:Int)-1-(k:Int)
  ·obtain⟨j,hj⟩:∃j:Nat,(j:Int)=(n:Int)-1-(k:Int):=⟨((n:Int)-1-(k:Int)).toNat,by omega⟩;have hkn:(k:Int)<(n:Int):=(by omega);have hjn:(j:Int)<(n:Int):=(by omega);have hk0:(0:Int)≤(k:Int):=(by omega);have hj0:(0:Int)≤(j:Int):=(by omega);have HJ:Hid (j+k+1=n∧k<j∧(j:Int)=(n:Int)-1-(k:Int)):=Lh (by omega);rw[←hj] at hkj ⊢;clear hj;obtain⟨cx,hcx⟩:∃c,c=(hAt L k).map Qab:=⟨_,rfl⟩;obtain⟨cy,hcy⟩:∃c,c=(hAt L j).map Qab:=⟨_,rfl⟩;have HCX:Hid (cx.length=32):=Lh (by rw[hcx,qM];exact HL.out k (by omega));have HCY:Hid (cy.length=32):=Lh (by rw[hcy,qM];exact HL.out j (by omega));have HX:Hid (cx=(hAt L k).map Qab):=Lh hcx;have HY:Hid (cy=(hAt L j).map Qab):=Lh hcy;have HC1:Hid (cx.toArray.all (·.oneCell')=true):=Lh (by rw[hcx];exact QaH (hAt L k));have HC2:Hid (cy.toArray.all (·.oneCell')=true):=Lh (by rw[hcy];exact QaH (hAt L j));have HT1:Hid (wr.drew.there g (k*32) cy.toArray.size):=Lh (by have:=HCY.out;have:=HR.out.t k (by omega);simp only[List.size_toArray];rw[HCY.out,World.there_drew];exact this);have HT2:Hid (∀vs,(wr.drew.setCells g (k*32) vs).there g (j*32) cx.toArray.size):=Lh (fun vs=>by have:=HR.out.t j (by omega);simp only[List.size_toArray];rw[HCX.out];exact World.there_setCells ((World.there_drew _ _ _ _).2 this) _ _ _);have hHeld:wr.drew.rangeAt g (k*32) cx∧wr.drew.rangeAt g (j*32) cy:=by
    have h1:=HR.out.c k (by omega);have h2:=HR.out.c j (by omega);have e1:rv L n k k=hAt L k:=(by unfold rv;rw[if_neg (by have:=HJ.out;omega)]);have e2:rv L n k j=hAt L j:=(by unfold rv;rw[if_neg (by have:=HJ.out;omega)]);rw[e1,←hcx] at h1;rw[e2,←hcy] at h2;exact⟨(World.rangeAt_drew _ _ _ _).2 h1,(World.rangeAt_drew _ _ _ _).2 h2⟩
   have HN2:Hid (RV w ((wr.drew.setCells g (k*32) cy.toArray.toList).setCells g (j*32) cx.toArray.toList) g base L n (k+1)):=Lh (by
    have h:=HR.out
    have h':RV w wr.drew g base L n k:=⟨fun i hi=>(World.rangeAt_drew _ _ _ _).2 (h.c i hi),fun i hi=>(World.there_drew _ _ _ _).2 (h.t i hi),h.b.drew⟩
    have h2:=h'.swap HL.out HJ.out.1 HJ.out.2.1 HG.out
    rw[←hcx,←hcy] at h2
    exact h2)
   clear hcx hcy HR;go_wp2_with fail;refine Qaj (fun _=>True) (fun _=>true) (by kernel_rfl) ?_;refine Qaa (i:=2) (oi:=⟨some 16,Op.move (.tmp 0),90,_,_,_⟩) (v:=?_) rfl (by kernel_rfl) (by kernel_rfl) (by kernel_rfl) (by kernel_rfl) (by kernel_rfl) (fun _ _ _ h=>h) (by rfl) ?zq0 trivial ?zq1;(case zq0=>intro wS hSw;(try dsimp only at hSw);go_simp;(try with_reducible rfl));(all_goals try go_frame);refine Qaa (i:=3) (oi:=⟨some 17,Op.move (.tmp 3),3,_,_,_⟩) (v:=?_) rfl (by kernel_rfl) (by kernel_rfl) (by kernel_rfl) (by kernel_rfl) (by kernel_rfl) (fun _ _ _ h=>h) (by rfl) ?zq2 trivial ?zq3;(case zq2=>intro wS hSw;(try dsimp only at hSw);go_simp;(try with_reducible rfl));(all_goals try go_frame);refine Qde (S:=fun w'=>w'.rangeAt g (k*32) cx∧w'.rangeAt g (j*32) cy) (hd:=fun i=>decide (i<13)) _ _ _ _ ?_;refine Qaa (i:=0) (oi:=⟨some 14,Op.move (.tmp 0),90,_,_,_⟩) (v:=?_) rfl (by kernel_rfl) (by kernel_rfl) (by kernel_rfl) (by kernel_rfl) (by kernel_rfl) (fun _ _ _ h=>h) (by rfl) ?zq4 hHeld ?zq5;(case zq4=>intro wS hSw;(try dsimp only at hSw);go_simp;(try with_reducible rfl));(all_goals try go_frame);refine Qaa (i:=1) (oi:=⟨some 15,Op.move (.tmp 2),3,_,_,_⟩) (v:=?_) rfl (by kernel_rfl) (by kernel_rfl) (by kernel_rfl) (by kernel_rfl) (by kernel_rfl) (fun _ _ _ h=>h) (by rfl) ?zq6 hHeld ?zq7;(case zq6=>intro wS hSw;(try dsimp only at hSw);go_simp;(try with_reducible rfl));(all_goals try go_frame);refine Qaa (i:=4) (oi:=⟨some 18,Op.move (.tmp 0),90,_,_,_⟩) (v:=?_) rfl (by kernel_rfl) (by kernel_rfl) (by kernel_rfl) (by kernel_rfl) (by kernel_rfl) (fun _ _ _ h=>h) (by rfl) ?zq8 hHeld ?zq9;(case zq8=>intro wS hSw;(try dsimp only at hSw);go_simp;(try with_reducible rfl));(all_goals try go_frame);refine Qaa (i:=5) (oi:=⟨some 19,Op.move (.tmp 3),3,_,_,_⟩) (v:=?_) rfl (by kernel_rfl) (by kernel_rfl) (by kernel_rfl) (by kernel_rfl) (by kernel_rfl) (fun _ _ _ h=>h) (by rfl) ?zq10 hHeld ?zq11;(case zq10=>intro wS hSw;(try dsimp only at hSw);go_simp;(try with_reducible rfl));(all_goals try go_frame);refine Qaa (i:=6) (oi:=⟨some 20,Op.indexAddr 90 (.tmp 18) (.tmp 19),0,_,_,_⟩) (v:=?_) rfl (by kernel_rfl) (by kernel_rfl) (by kernel_rfl) (by kernel_rfl) (by kernel_rfl) (fun _ _ _ h=>h) (by rfl) ?zq12 hHeld ?zq13;(case zq12=>intro wS hSw;(try dsimp only at hSw);go_simp;(try with_reducible rfl));(all_goals try go_frame);refine Qaa (i:=7) (oi:=⟨some 21,Op.load 101 (.tmp 20),101,_,_,_⟩) (v:=?_) rfl (by kernel_rfl) (by kernel_rfl) (by kernel_rfl) (by kernel_rfl) (by kernel_rfl) (fun _ _ _ h=>h) (by rfl) ?zq14 hHeld ?zq15;(case zq14=>intro wS hSw;refine QaV 101 (.tmp 20) ?_ g (j*32) ?_ cy _ ?_ Tryz.underlying101 ?_ ?_;rfl;rfl;(first|exact hSw.1|exact hSw.2);rfl;(first|(rw[HCX.out];kernel_rfl)|(rw[HCY.out];kernel_rfl)));(all_goals try go_frame);refine Qaa (i:=8) (oi:=⟨some 22,Op.move (.tmp 0),90,_,_,_⟩) (v:=?_) rfl (by kernel_rfl) (by kernel_rfl) (by kernel_rfl) (by kernel_rfl) (by kernel_rfl) (fun _ _ _ h=>h) (by rfl) ?zq16 hHeld ?zq17;(case zq16=>intro wS hSw;(try dsimp only at hSw);go_simp;(try with_reducible rfl));(all_goals try go_frame);refine Qaa (i:=9) (oi:=⟨some 23,Op.move (.tmp 2),3,_,_,_⟩) (v:=?_) rfl (by kernel_rfl) (by kernel_rfl) (by kernel_rfl) (by kernel_rfl) (by kernel_rfl) (fun _ _ _ h=>h) (by rfl) ?zq18 hHeld ?zq19;(case zq18=>intro wS hSw;(try dsimp only at hSw);go_simp;(try with_reducible rfl));(all_goals try go_frame);refine Qaa (i:=10) (oi:=⟨some 24,Op.indexAddr 90 (.tmp 22) (.tmp 23),0,_,_,_⟩) (v:=?_) rfl (by kernel_rfl) (by kernel_rfl) (by kernel_rfl) (by kernel_rfl) (by kernel_rfl) (fun _ _ _ h=>h) (by rfl) ?zq20 hHeld ?zq21;(case zq20=>intro wS hSw;(try dsimp only at hSw);go_simp;(try with_reducible rfl));(all_goals try go_frame);refine Qaa (i:=11) (oi:=⟨some 25,Op.load 101 (.tmp 24),101,_,_,_⟩) (v:=?_) rfl (by kernel_rfl) (by kernel_rfl) (by kernel_rfl) (by kernel_rfl) (by kernel_rfl) (fun _ _ _ h=>h) (by rfl) ?zq22 hHeld ?zq23;(case zq22=>intro wS hSw;refine QaV 101 (.tmp 24) ?_ g (k*32) ?_ cx _ ?_ Tryz.underlying101 ?_ ?_;rfl;rfl;(first|exact hSw.1|exact hSw.2);rfl;(first|(rw[HCX.out];kernel_rfl)|(rw[HCY.out];kernel_rfl)));(all_goals try go_frame);refine Qaa (i:=12) (oi:=⟨some 26,Op.indexAddr 90 (.tmp 14) (.tmp 15),0,_,_,_⟩) (v:=?_) rfl (by kernel_rfl) (by kernel_rfl) (by kernel_rfl) (by kernel_rfl) (by kernel_rfl) (fun _ _ _ h=>h) (by rfl) ?zq24 hHeld ?zq25;(case zq24=>intro wS hSw;(try dsimp only at hSw);go_simp;(try with_reducible rfl));(all_goals try go_frame);refine tD 13 ⟨none,Op.store 101 (.tmp 26) (.tmp 21),0,_,_,_⟩ rfl fun K hK=>?_
   refine wp_store_mid 101 (.tmp 26) (.tmp 21) rfl g (k*32) cy.toArray ?_ ?_ HT1.out ?_ HC2.out ?_
   ·rfl
   ·rfl
   ·show _=some cy.length;rw[HCY.out];kernel_rfl
   refine hK _ _ (fun h=>absurd h (by decide)) ?_;clear hK K;(try simp only[Act.put]);refine tD 14 ⟨some 27,Op.indexAddr 90 (.tmp 16) (.tmp 17),0,_,_,_⟩ rfl fun K hK=>?_
   go_simp;refine hK _ _ (fun h=>absurd h (by decide)) ?_;clear hK K;(try go_frame);refine tD 15 ⟨none,Op.store 101 (.tmp 27) (.tmp 25),0,_,_,_⟩ rfl fun K hK=>?_
   refine wp_store_mid 101 (.tmp 27) (.tmp 25) rfl g (j*32) cx.toArray ?_ ?_ (HT2.out _) ?_ HC1.out ?_
   ·rfl
   ·rfl
   ·show _=some cx.length;rw[HCX.out];kernel_rfl
   refine hK _ _ (fun h=>absurd h (by decide)) ?_;clear hK K;(try simp only[Act.put]);refine Qae (by kernel_rfl) ?_ _;unfold Exit.then;go_wp2_with fail;go_roundw;(case rel=>exact⟨k+1,by have:=HJ.out;omega,by go_num,by have:=HJ.out;first|(congr 1;omega)|go_num,HN2⟩);case measure=>simp[intOf];omega
  ·go_wp2_with fail;go_end0;refine⟨rfl,fun i hi=>?_,HR.out.b⟩;have h:=HR.out.c i hi;unfold rv at h;split at h
   ·exact h
   ·have e:n-1-i=i:=by omega
    rw[e];exact h
def Qc5:Nat→List H32→Nat→List H32
 |0,_,_=>[]
 |f+1,l,i=>if l.length≤1 then[] else if i<Qam l.length then⟨root (l.drop (Qam l.length))⟩::Qc5 f (l.take (Qam l.length)) i else⟨root (l.take (Qam l.length))⟩::Qc5 f (l.drop (Qam l.length)) (i-Qam l.length)
def down (l:List H32)(i:Nat):List H32:=Qc5 l.length l i
def Qej (l:List H32)(i:Nat):List H32:=(down l i).reverse
theorem Qcy:∀(f g:Nat) (l:List H32) (i:Nat),l.length≤f→l.length≤g→l.length≤1073741824→Qc5 f l i=Qc5 g l i
 |0,0,_,_,_,_,_=>rfl
 |0,g+1,l,i,h,_,_=>by rw[Qc5,Qc5,if_pos (by omega)]
 |f+1,0,l,i,_,h,_=>by rw[Qc5,Qc5,if_pos (by omega)]
 |f+1,g+1,l,i,hf,hg,hl=>by
  rw[Qc5,Qc5];split
  ·rfl
  ·obtain⟨_,_,h1,h2,_⟩:=QaD l.length (by omega) (by omega)
   rw[Qcy f g _ _ (by rw[qK];omega) (by rw[qK];omega) (by rw[qK];omega),Qcy f g (l.drop _) _ (by rw[List.length_drop];omega) (by rw[List.length_drop];omega) (by rw[List.length_drop];omega)]
theorem down_one (l:List H32)(i:Nat)(h:l.length≤1):down l i=[]:=by
 unfold down;cases hl:l.length with
 |zero=>rfl
 |succ f=>rw[Qc5,if_pos (by omega)]
theorem down_left (l:List H32)(i:Nat)(h2:2≤l.length)(h:l.length≤1073741824)(hi:i<Qam l.length):down l i=⟨root (l.drop (Qam l.length))⟩::down (l.take (Qam l.length)) i:=by
 obtain⟨_,_,h3,h4,_⟩:=QaD l.length h2 (by omega);obtain⟨f,hf⟩:∃f,l.length=f+1:=⟨l.length-1,by omega⟩;unfold down;(conv=>lhs;rw[hf,Qc5,if_neg (by omega),if_pos hi]);rw[Qcy f _ (l.take _) i (by rw[qK];omega) nL (by rw[qK];omega)]
theorem down_right (l:List H32)(i:Nat)(h2:2≤l.length)(h:l.length≤1073741824)(hi:¬i<Qam l.length):down l i=⟨root (l.take (Qam l.length))⟩::down (l.drop (Qam l.length)) (i-Qam l.length):=by
 obtain⟨_,_,h3,h4,_⟩:=QaD l.length h2 (by omega);obtain⟨f,hf⟩:∃f,l.length=f+1:=⟨l.length-1,by omega⟩;unfold down;(conv=>lhs;rw[hf,Qc5,if_neg (by omega),if_neg hi]);rw[Qcy f _ (l.drop _) _ (by rw[List.length_drop];omega) nL (by rw[List.length_drop];omega)]
theorem Qdg {ops:Array Oper}{rest:List Oper}{o:Oper}{a:Act}{Q:Exit→Act→World→Prop}{w:World}(hgd:o.guard=none)(x:Operand)(ho:o.op=.buildSlice 90 1 #[(0,x)])(cs:Array Value)(hx:a.eval x=.agg cs)(hs:cs.size=32) (h:wpList Tryz.prog ops Q rest (a.put o.dst (.slice (some ⟨w.heap.size,0,none⟩) 1 1)) (w.alloc (.cells cs 101))):wpList Tryz.prog ops Q (o::rest) a w:=
 wpList_plain hgd fun _ hK=>Qex x ho cs hx hs (hK _ _ h)
def vlenZ:Value→Nat
 |.slice _ n _=>n
 |_=>0
theorem own_rv {w:World}{base g n c:Nat}{e:TypeId}{l:List H32}(h:Own w base e (.slice (some ⟨g,0,none⟩) n c) l)(hn:l.length=n):RV w w g base l n 0∧(∀i,i<n→(hAt l i).length=32):=by
 subst hn;refine⟨⟨fun i hi=>?_,fun i hi=>?_,Below.refl _ _⟩,fun i hi=>?_⟩
 ·obtain⟨g',cap,es,e1,_,_,_,⟨rfl,hl⟩,hc,_⟩:=h.at_ hi;cases e1;have e2:rv l l.length 0 i=l[i].l:=(by unfold rv;rw[if_neg (by omega),hAt_eq _ _ hi]);rw[e2];exact fun j v hv=>hc j v hv
 ·obtain⟨g',cap,es,e1,_,_,_,⟨rfl,hl⟩,hc,hf⟩:=h.at_ hi;cases e1;intro j hj;refine⟨?_,hf _⟩;have hj2:j<(l[i].l.map Qab).length:=(by rw[qM,hl];exact hj);have:=hc j _ (qG hj2);rw[show i*Rep.size H32=i*32 from rfl] at this;rw[this];rfl
 ·obtain⟨g',cap,es,e1,_,_,_,⟨rfl,hl⟩,hc,_⟩:=h.at_ hi;rw[hAt_eq _ _ hi];exact hl
theorem sl_rows {w:World}{S:Nat→Prop}{g c:Nat}{l:List H32}(hS:S g)(hg:g<w.heap.size)(hc:l.length≤c)(hm:c≤maxLen)(hl:∀i,(h:i<l.length)→l[i].l.length=32) (h:∀i,(h:i<l.length)→w.rangeAt g (i*32) (l[i].l.map Qab)):Sl w S (some ⟨g,0,none⟩) c l:=
 ⟨hc,hm,fun _=>⟨g,0,rfl,hS,hg,fun i hi=>⟨_,⟨rfl,hl i hi⟩,fun j u hu=>by rw[Nat.zero_add];exact h i hi j u hu⟩⟩⟩
set_option maxRecDepth 100000 in
theorem path_any (l:List H32)(A:Option Addr)(n c i:Nat)(w:World)(hl:Sl w (fun b=>b<w.heap.size) A c l)(hn:l.length=n)(hs:n≤1048576)(hi:i<n)(hK:KLaid w):
 Calls Tryz.prog 107 #[.slice A n c,.int .i64 (i:Int)] w fun e w'=>∃A' c',e=.returned (.tuple #[.slice A' (Qej l i).length c',.int .i64 0])∧Sl w' (fun b=>b<w'.heap.size) A' c' (Qej l i)∧Below w.heap.size w w':=by
 have HL:=Lh hl;have HN:=Lh hn;have HK:=Lh hK;have HLen:=Lh (h32_len hl);have hin:¬n≤i:=by omega
 clear hl hn hK;go_enter Tryz.func107,Tryz.ntmps107;go_wp2_with fail;go_loopw [0,1,6] (fun s x v wr=>∃(l':List H32) (A':Option Addr) (n' c' i':Nat) (acc:List H32),s=.slice A' n' c'∧x=.int .i64 (i':Int)∧i'<n'∧Hid (l'.length=n')∧acc.length+n'≤1048577∧Hid (Sl w (fun b=>b<w.heap.size) A' c' l')∧Hid (Own wr w.heap.size 101 v acc)∧Hid (acc++down l' i'=down l i)∧Hid (Below w.heap.size w wr)) (fun s _ _ _=>vlenZ s);(case atStart=>exact⟨l,A,n,c,i,[],rfl,rfl,hi,HN,by simp;omega,HL,Lh (Own.nil _ _ _),Lh rfl,Lh bR⟩);case round=>
  obtain⟨l',A',n',c',i',acc,rfl,rfl,hi',HN',hac,HL',HO,HD,HB⟩:=hrel;by_cases h1:1<n'
  ·obtain⟨_,_,h3,h4,_⟩:=QaD n' (by omega) (by omega);have HSP:=Lh (QeY n' (by omega) (by omega));obtain⟨b,o,rfl,_⟩:=HL'.out.2.2 (by have:=HN'.out;omega);have hnc:n'≤c':=(by have:=HL'.out.1;have:=HN'.out;omega);have hcm:c'≤9223372036854775807:=(by have:=HL'.out.2.1;unfold maxLen at this;omega);have h1':(1:Int)<(n':Int):=by omega
   have HDL:Hid (i'<Qam n'→down l' i'=⟨root (l'.drop (Qam n'))⟩::down (l'.take (Qam n')) i'):=Lh (fun h=>by rw[←HN'.out] at h ⊢;exact down_left l' i' (by have:=HN'.out;omega) (by have:=HN'.out;omega) h);have HDR:Hid (¬i'<Qam n'→down l' i'=⟨root (l'.take (Qam n'))⟩::down (l'.drop (Qam n')) (i'-Qam n')):=Lh (fun h=>by rw[←HN'.out] at h ⊢;exact down_right l' i' (by have:=HN'.out;omega) (by have:=HN'.out;omega) h);generalize Qam n'=k at*;by_cases hik:i'<k
   ·have hik':(i':Int)<(k:Int):=by omega
    have HRT:Hid (Calls Tryz.prog 109 #[.slice (some ⟨b,o+k*32,none⟩) (n'-k) (c'-k)] wr fun e w'=>e=.returned (Qar (root (l'.drop k)))∧Below wr.heap.size wr w'):=Lh (root_any (l'.drop k) _ _ _ wr (QeZ (HL'.out.to HB.out) k (by have:=HN'.out;omega)) (by have:=HN'.out;rw[List.length_drop];omega) (by omega) (HK.out.to HB.out));have HRL:Hid ((root (l'.drop k)).length=32):=Lh (Qbp _ fun x hx=>h32_len HL'.out x (List.mem_of_mem_drop hx));have hlf:Qar (root (l'.drop k))=.agg ((root (l'.drop k)).map Qab).toArray:=rfl;rw[hlf] at HRT;clear hlf;have HSZ:=Lh (QaB HRL.out);generalize hcs:((root (l'.drop k)).map Qab).toArray=cs at*;have HCS:=Lh hcs;clear hcs
    go_wp2_with (first|(go_at_call 152;refine(HSP.out _).mono ?_;rintro e w' ⟨rfl,rfl⟩)|fail)
    refine HRT.out.mono ?_;rintro e w2 ⟨rfl,hb2⟩;have HO2':=Lh (HO.out.below hb2);have HO2:=Lh ((HO.out.below hb2).alloc (.cells cs 101));have HB2:=Lh (HB.out.trans (hb2.mono HB.out.size));have HR:Hid (∀S,Rep.R (w2.alloc (.cells cs 101)) S cs.toList (⟨root (l'.drop k)⟩:H32)):=Lh (fun S=>⟨by rw[←HCS.out],HRL.out⟩);clear hb2 HO HRT
    go_wp2_with (first|(refine Qdg rfl (.tmp 29) rfl cs rfl HSZ.out ?_)|(at_builtin;(refine Qav (α:=H32) _ rfl (.tmp 25) (.tmp 30) 90 rfl w.heap.size 101 (.agg (Qaf.map Qab).toArray) 32 Tryz.underlying90 Qe0 rfl (by decide) u6 acc rfl HO2.out w2.heap.size cs ⟨root (l'.drop k)⟩ (0,0) 101 rfl (heap_alloc_new w2 _) (HR.out _) (by omega) (by omega) (by have:=HB2.out.size;simp;omega) _ rfl ?_;intro g3 p3 w3 hown3 hg3 hat3 hlt3))|fail)
    go_roundw;case rel=>
     have hD:=HD.out;rw[HDL.out hik,List.append_cons] at hD;exact⟨l'.take k,(some ⟨b,o,none⟩),k,c',i',_,rfl,rfl,by omega,Lh (by have:=HN'.out;rw[qK];omega),by simp;omega,Lh ((HL'.out).take k (by have:=HN'.out;omega)),Lh hown3,Lh hD,Lh (QbN HB2.out HO2'.out HB2.out.size hg3)⟩
    case measure=>(show(_:Nat)<_;simp only[vlenZ];omega)
   ·have hik':¬(i':Int)<(k:Int):=by omega
    have HRT:Hid (Calls Tryz.prog 109 #[.slice (some ⟨b,o,none⟩) k c'] wr fun e w'=>e=.returned (Qar (root (l'.take k)))∧Below wr.heap.size wr w'):=Lh (root_any (l'.take k) _ _ _ wr ((HL'.out.to HB.out).take k (by have:=HN'.out;omega)) (by have:=HN'.out;rw[qK];omega) (by omega) (HK.out.to HB.out));have HRL:Hid ((root (l'.take k)).length=32):=Lh (Qbp _ fun x hx=>h32_len HL'.out x (List.mem_of_mem_take hx));have hlf:Qar (root (l'.take k))=.agg ((root (l'.take k)).map Qab).toArray:=rfl;rw[hlf] at HRT;clear hlf;have HSZ:=Lh (QaB HRL.out);generalize hcs:((root (l'.take k)).map Qab).toArray=cs at*;have HCS:=Lh hcs;clear hcs
    go_wp2_with (first|(go_at_call 152;refine(HSP.out _).mono ?_;rintro e w' ⟨rfl,rfl⟩)|fail)
    refine HRT.out.mono ?_;rintro e w2 ⟨rfl,hb2⟩;have HO2':=Lh (HO.out.below hb2);have HO2:=Lh ((HO.out.below hb2).alloc (.cells cs 101));have HB2:=Lh (HB.out.trans (hb2.mono HB.out.size));have HR:Hid (∀S,Rep.R (w2.alloc (.cells cs 101)) S cs.toList (⟨root (l'.take k)⟩:H32)):=Lh (fun S=>⟨by rw[←HCS.out],HRL.out⟩);clear hb2 HO HRT
    go_wp2_with (first|(refine Qdg rfl (.tmp 39) rfl cs rfl HSZ.out ?_)|(at_builtin;(refine Qav (α:=H32) _ rfl (.tmp 35) (.tmp 40) 90 rfl w.heap.size 101 (.agg (Qaf.map Qab).toArray) 32 Tryz.underlying90 Qe0 rfl (by decide) u6 acc rfl HO2.out w2.heap.size cs ⟨root (l'.take k)⟩ (0,0) 101 rfl (heap_alloc_new w2 _) (HR.out _) (by omega) (by omega) (by have:=HB2.out.size;simp;omega) _ rfl ?_;intro g3 p3 w3 hown3 hg3 hat3 hlt3))|fail)
    go_roundw;case rel=>
     have hD:=HD.out;rw[HDR.out hik,List.append_cons] at hD;exact⟨l'.drop k,(some ⟨b,o+k*32,none⟩),(n'-k),(c'-k),(i'-k),_,rfl,(by go_num),by omega,Lh (by have:=HN'.out;rw[List.length_drop];omega),by simp;omega,Lh (QeZ HL'.out k (by have:=HN'.out;omega)),Lh hown3,Lh hD,Lh (QbN HB2.out HO2'.out HB2.out.size hg3)⟩
    case measure=>(show(_:Nat)<_;simp only[vlenZ];omega)
  ·have h1':¬(1:Int)<(n':Int):=by omega
   have hD:=HD.out;rw[down_one l' i' (by have:=HN'.out;omega),List.append_nil] at hD;obtain⟨A6,c6,e6,_,hc1,hc2⟩:=HO.out.form;unfold maxLen at hc2;have HP:Hid (acc.reverse=Qej l i):=Lh (by rw[hD];rfl);have HP2:Hid ((Qej l i).length=acc.length):=Lh (by rw[←HP.out,List.length_reverse]);clear hD HD;subst e6;by_cases h0:acc.length=0
   ·have HRV:=Lh (rev0_any A6 c6 wr);rw[h0] at HO ⊢
    go_wp2_with (first|(go_at_call 153;refine HRV.out.mono ?_;rintro e w6 ⟨rfl,rfl⟩)|fail)
    go_ret2;have hnil:Qej l i=[]:=List.eq_nil_of_length_eq_zero (by rw[HP2.out,h0]);rw[hnil];exact⟨A6,c6,rfl,Sl.nil _ _ _ _ (by unfold maxLen;omega),HB.out⟩
   ·obtain⟨g,cap,es,e1,hg1,hg2,_,_,_,_⟩:=HO.out.at_ (k:=0) (by omega);cases e1;have hrv:=own_rv HO.out rfl;have HRL:Hid (∀i,i<acc.length→(hAt acc i).length=32):=Lh hrv.2;have HRV:=Lh (rev_any g w.heap.size acc.length c6 acc wr hg1 hrv.1 hrv.2 hc1 hc2);clear hrv HO;go_wp2_with fail;refine HRV.out.mono ?_;rintro e w6 ⟨rfl,hr6,hb6⟩;have HR6:=Lh hr6;clear hr6;go_wp2_with fail;go_ret2;refine⟨some ⟨g,0,none⟩,c6,(by rw[HP2.out];rfl),?_,HB.out.trans hb6⟩;rw[←HP.out]
    have hra:∀j (h:j<acc.reverse.length),acc.reverse[j].l=hAt acc (acc.length-1-j):=fun j hj=>by
     rw[List.length_reverse] at hj;rw[List.getElem_reverse,hAt_eq _ _ (by omega)]
    refine sl_rows (by have:=hb6.size;omega) (by have:=hb6.size;omega) (by rw[List.length_reverse];exact hc1) (by unfold maxLen;omega) (fun j hj=>?_) (fun j hj=>?_)
    ·rw[hra];rw[List.length_reverse] at hj;exact HRL.out _ (by omega)
    ·rw[hra];rw[List.length_reverse] at hj;exact HR6.out j hj
structure Out (F:Nat→Prop)(w w':World):Prop where
 os:w'.os=w.os
 tape:w'.tape=w.tape
 output:w'.output=w.output
 size:w.heap.size≤w'.heap.size
 block:∀g,g<w.heap.size→¬F g→w'.heap[g]? =w.heap[g]?
section
variable {F:Nat→Prop} {w w' w'':World}
theorem Out.trans (h:Out F w w')(k:Out F w' w''):Out F w w'':=
 ⟨k.os.trans h.os,k.tape.trans h.tape,k.output.trans h.output,Nat.le_trans h.size k.size,fun g hg hf=>(k.block g (Nat.lt_of_lt_of_le hg h.size) hf).trans (h.block g hg hf)⟩
theorem Out.of_below (h:Below w.heap.size w w'):Out F w w':=⟨h.os,h.tape,h.output,h.size,fun g hg _=>h.block g hg⟩
theorem Out.below {B:Nat}(h:Out F w w')(hF:∀g,F g→B≤g)(hB:B≤w.heap.size):Below B w w':=
 ⟨h.os,h.tape,h.output,h.size,fun g hg=>h.block g (by omega) (fun hf=>by have:=hF g hf;omega)⟩
theorem Out.set (h:Out F w w'){g:Nat}(hg:F g∨w.heap.size≤g)(o:Nat)(v:Value):Out F w (w'.setCell ⟨g,o,none⟩ v):=by
 refine⟨h.os,h.tape,h.output,by simpa using h.size,fun x hx hf=>?_⟩;rw[Qal _ _ _ _ (by rintro rfl;rcases hg with hg|hg;exact hf hg;omega)];exact h.block x hx hf
theorem Out.box (h:Out F w w'){P:Nat}{t:TypeId}{cs:List Value}(hb:ABoxZ w P t cs)(hf:¬F P):ABoxZ w' P t cs:=(h.block P hb.lt hf).trans hb
end
theorem Out.setRow {F:Nat→Prop}{w w':World}(h:Out F w w'){R:Nat}(hR:w.heap.size≤R)(cs:Array Value):Out F w (w'.setRow R cs):=
 ⟨h.os,h.tape,h.output,by rw[setRow_size];exact h.size,fun g hg hf=>(setRow_other w' R g cs (by omega)).trans (h.block g hg hf)⟩
theorem abox_setRow {w:World}{R P:Nat}{t:TypeId}{cs:List Value}{vs:Array Value}(h:ABoxZ w P t cs)(hne:P≠R):ABoxZ (w.setRow R vs) P t cs:=(setRow_other w R P vs hne).trans h
def takeP (p:List H32)(s:Nat × Bool):List UInt8 × (Nat × Bool):=if s.1=0 then(Qaf,(0,true)) else(hAt p (s.1-1),(s.1-1,s.2))
structure TK (w0 w:World)(Lb Mb Pb:Nat)(v:Value)(s:Nat × Bool):Prop where
 l:ABoxZ w Lb 3 [.int .i64 (s.1:Int)]
 m:ABoxZ w Mb 4 [.bool s.2]
 p:ABoxZ w Pb 90 [v]
 bl:w0.heap.size≤Lb
 bm:w0.heap.size≤Mb
 bp:w0.heap.size≤Pb
 lm:Lb≠Mb
 lp:Lb≠Pb
 mp:Mb≠Pb
 b:Below w0.heap.size w0 w
def TF (Lb Mb:Nat):Nat→Prop:=fun g=>g=Lb∨g=Mb
theorem TK.bs {w0 w:World}{Lb Mb Pb:Nat}{v:Value}{s:Nat × Bool}(h:TK w0 w Lb Mb Pb v s):w0.heap.size≤w.heap.size:=h.b.size
theorem TK.to {w0 w w':World}{Lb Mb Pb:Nat}{v:Value}{s:Nat × Bool}(h:TK w0 w Lb Mb Pb v s)(hb:Below w.heap.size w w'):TK w0 w' Lb Mb Pb v s:=
 ⟨h.l.to hb,h.m.to hb,h.p.to hb,h.bl,h.bm,h.bp,h.lm,h.lp,h.mp,h.b.trans (hb.mono h.bs)⟩
theorem TK.setL {w0 w:World}{Lb Mb Pb:Nat}{v:Value}{s:Nat × Bool}(h:TK w0 w Lb Mb Pb v s)(n:Nat):TK w0 (w.setCell ⟨Lb,0,none⟩ (.int .i64 (n:Int))) Lb Mb Pb v (n,s.2):=by
 refine⟨h.l.set 0 _,?_,?_,h.bl,h.bm,h.bp,h.lm,h.lp,h.mp,h.b.setCell (p:=⟨Lb,0,none⟩) h.bl _⟩
 ·unfold ABoxZ;rw[Qal _ _ _ _ (Ne.symm h.lm)];exact h.m
 ·unfold ABoxZ;rw[Qal _ _ _ _ (Ne.symm h.lp)];exact h.p
theorem TK.setM {w0 w:World}{Lb Mb Pb:Nat}{v:Value}{s:Nat × Bool}(h:TK w0 w Lb Mb Pb v s)(b:Bool):TK w0 (w.setCell ⟨Mb,0,none⟩ (.bool b)) Lb Mb Pb v (s.1,b):=by
 refine⟨?_,h.m.set 0 _,?_,h.bl,h.bm,h.bp,h.lm,h.lp,h.mp,h.b.setCell (p:=⟨Mb,0,none⟩) h.bm _⟩
 ·unfold ABoxZ;rw[Qal _ _ _ _ h.lm];exact h.l
 ·unfold ABoxZ;rw[Qal _ _ _ _ (Ne.symm h.mp)];exact h.p
theorem TK.setRow {w0 w:World}{Lb Mb Pb:Nat}{v:Value}{s:Nat × Bool}(h:TK w0 w Lb Mb Pb v s){R:Nat}(h1:Lb≠R)(h2:Mb≠R)(h3:Pb≠R)(h4:w0.heap.size≤R)(cs:Array Value):TK w0 (w.setRow R cs) Lb Mb Pb v s:=
 ⟨abox_setRow h.l h1,abox_setRow h.m h2,abox_setRow h.p h3,h.bl,h.bm,h.bp,h.lm,h.lp,h.mp,Qax h.b h4 _⟩
set_option maxRecDepth 100000 in
theorem take_any (w0 w:World)(Lb Mb Pb:Nat)(A:Option Addr)(c n:Nat)(p:List H32)(s:Nat × Bool)(hs:Sl w0 (fun b=>b<w0.heap.size) A c p)(hn:p.length=n)(hn2:n≤9223372036854775807)(h1:s.1≤n)(h:TK w0 w Lb Mb Pb (.slice A n c) s):
 Calls Tryz.prog 187 #[.pointer (some ⟨Lb,0,none⟩),.pointer (some ⟨Mb,0,none⟩),.pointer (some ⟨Pb,0,none⟩)] w fun e w'=>e=.returned (Qar (takeP p s).1)∧TK w0 w' Lb Mb Pb (.slice A n c) (takeP p s).2∧Out (TF Lb Mb) w w':=by
 obtain⟨k,mi⟩:=s;dsimp only at h1;have HH:=Lh h;have HS:=Lh hs;have HN:=Lh hn;have HK1:=Lh h1;by_cases h0:k=0
 ·subst h0;have HT:=Lh (h.to ((Below.refl w.heap.size w).alloc nL (.cells (Qaf.map Qab).toArray 101)));have HR0:Hid (ABoxZ (w.alloc (.cells (Qaf.map Qab).toArray 101)) w.heap.size 101 (Qaf.map Qab)):=Lh (heap_alloc_new w _);have HW:Hid (Out (TF Lb Mb) w (w.alloc (.cells (Qaf.map Qab).toArray 101))):=Lh (Out.of_below ((Below.refl w.heap.size w).alloc nL _));have HLT:Hid (Lb<w.heap.size∧Mb<w.heap.size∧Pb<w.heap.size∧w0.heap.size≤w.heap.size):=Lh ⟨h.l.lt,h.m.lt,h.p.lt,h.bs⟩;have HWE:Hid (Out (TF Lb Mb) w (((w.alloc (.cells (Qaf.map Qab).toArray 101)).setCell ⟨Mb,0,none⟩ (.bool true)).setRow w.heap.size (Qaf.map Qab).toArray)):=Lh ((HW.out.set (.inl (.inr rfl)) 0 _).setRow nL _);clear h hs hn h1;go_enter Tryz.func187,Tryz.ntmps187;go_upto_region 1 with(fail);generalize hw1:World.alloc w _=w1;have hw2:w.alloc (.cells (Qaf.map Qab).toArray 101)=w1:=hw1;rw[hw2] at HT HR0 HW HWE;clear hw1 hw2;generalize w.heap.size=R at*;have k0:=HT.out.l.cell 0 rfl;have k1:=HT.out.m.cell 0 rfl;have kf:=HT.out.m.fz;have HT2:=Lh (HT.out.setM true);have HR2:Hid (ABoxZ (w1.setCell ⟨Mb,0,none⟩ (.bool true)) R 101 (Qaf.map Qab)):=Lh (by unfold ABoxZ;rw[Qal _ _ _ _ (by have:=HLT.out.2.1;omega)];exact HR0.out);have hr2:=HR2.out;unfold ABoxZ at hr2;have HZ:Hid ((Qaf.map Qab).toArray.size=32):=Lh rfl;have HZ1:=Lh (QaH Qaf);have HX:=Lh (setRow_heap _ R _ (Qaf.map Qab).toArray _ _ hr2);have HTE:=Lh (HT2.out.setRow (R:=R) (by have:=HLT.out;omega) (by have:=HLT.out;omega) (by have:=HLT.out;omega) (by have:=HLT.out;omega) (Qaf.map Qab).toArray)
  go_wp2_with (first|(refine wpList_store_row rfl 101 (.tmp 3) (.tmp 6) rfl R (Qaf.map Qab).toArray rfl rfl 101 (Qaf.map Qab).toArray hr2 (by rw[HZ.out];kernel_rfl) rfl HZ1.out ?_)|fail)
  exact bodyPost_ret (v:=.agg (Qaf.map Qab).toArray) (results_cell_row Tryz.results187 _ _ R _ _ (0,0) _ rfl HX.out Tryz.underlying101 rfl (by rw[HZ.out];kernel_rfl)) rfl ⟨rfl,HTE.out,HWE.out⟩
 ·obtain⟨j,rfl⟩:∃j,k=j+1:=⟨k-1,by omega⟩;have hjn:j<p.length:=(by omega);have hT:=h.to ((Below.refl w.heap.size w).alloc nL (.cells (Qaf.map Qab).toArray 101));obtain⟨b,o,rfl,hbS,_,hel,hxl⟩:=h32_at hs hjn;have hnc:n≤c:=(by have:=hs.1;omega);have hcm:c≤9223372036854775807:=(by have:=hs.2.1;unfold maxLen at this;omega);have HT:=Lh hT;have HE0:=Lh hel;have HXL:=Lh hxl;have HBS:Hid (b<w0.heap.size):=Lh hbS;have HTP:Hid (takeP p (j+1,mi)=(p[j].l,(j,mi))):=Lh (by unfold takeP;rw[if_neg (by simp)];simp only[Nat.add_sub_cancel];rw[hAt_eq p j hjn]);have HR0:Hid (ABoxZ (w.alloc (.cells (Qaf.map Qab).toArray 101)) w.heap.size 101 (Qaf.map Qab)):=Lh (heap_alloc_new w _);have HW:Hid (Out (TF Lb Mb) w (w.alloc (.cells (Qaf.map Qab).toArray 101))):=Lh (Out.of_below ((Below.refl w.heap.size w).alloc nL _));have HLT:Hid (Lb<w.heap.size∧Mb<w.heap.size∧Pb<w.heap.size∧w0.heap.size≤w.heap.size):=Lh ⟨h.l.lt,h.m.lt,h.p.lt,h.bs⟩;have HCN:Hid ((p[j].l.map Qab).length=32):=Lh (by rw[qM,hxl]);have hjn':(j:Int)<(n:Int):=(by omega);generalize p[j].l=x at*;clear h hs hn h1 hT hel hxl h0;have HWE:Hid (Out (TF Lb Mb) w (((w.alloc (.cells (Qaf.map Qab).toArray 101)).setCell ⟨Lb,0,none⟩ (.int .i64 (j:Int))).setRow w.heap.size (x.map Qab).toArray)):=Lh ((HW.out.set (.inl (.inl rfl)) 0 _).setRow nL _);go_enter Tryz.func187,Tryz.ntmps187;go_upto_region 1 with(fail);generalize hw1:World.alloc w _=w1;have hw2:w.alloc (.cells (Qaf.map Qab).toArray 101)=w1:=hw1;rw[hw2] at HT HR0 HW HWE;clear hw1 hw2;generalize w.heap.size=R at*;have k0:=HT.out.l.cell 0 rfl;have kf:=HT.out.l.fz;have k2:=(HT.out.setL j).p.cell 0 rfl;have k3:=(HT.out.setL j).l.cell 0 rfl;have HT2:=Lh (HT.out.setL j);have HR2:Hid (ABoxZ (w1.setCell ⟨Lb,0,none⟩ (.int .i64 (j:Int))) R 101 (Qaf.map Qab)):=Lh (by unfold ABoxZ;rw[Qal _ _ _ _ (by have:=HLT.out.1;omega)];exact HR0.out);have HE:Hid ((w1.setCell ⟨Lb,0,none⟩ (.int .i64 (j:Int))).rangeAt b (o+j*32) (x.map Qab)):=Lh (fun i v hv=>(HT2.out.b.cell (p:=⟨b,_,none⟩) HBS.out).trans (HE0.out i v hv));have hr2:=HR2.out;unfold ABoxZ at hr2;have HZ:Hid ((Qaf.map Qab).toArray.size=32):=Lh rfl;have HC1:=Lh (QaH x);have HSZ:=Lh (QaB HXL.out);have HX:=Lh (setRow_heap _ R _ (x.map Qab).toArray _ _ hr2);have HTE:=Lh (HT2.out.setRow (R:=R) (by have:=HLT.out;omega) (by have:=HLT.out;omega) (by have:=HLT.out;omega) (by have:=HLT.out;omega) (x.map Qab).toArray);have HRE:Hid (Qar x=.agg (x.map Qab).toArray):=Lh rfl;generalize hcs:(x.map Qab)=cl at*;generalize hcs2:cl.toArray=cs at*;have HCS2:=Lh hcs2;clear hcs hcs2;generalize (Qaf.map Qab).toArray=zs at*
  go_wp2_with (first|(refine wpList_load_mid rfl 101 (.tmp 11) rfl b (o+j*32) ?_ cl _ ?_ Tryz.underlying101 ?_ ?_ ?_;rfl;exact HE.out;rfl;(rw[HCN.out];kernel_rfl))|(refine wpList_store_row rfl 101 (.tmp 3) (.tmp 12) rfl R cs ?_ ?_ 101 zs hr2 (by rw[HSZ.out];kernel_rfl) (by rw[HZ.out,HSZ.out]) HC1.out ?_;rfl;(show Value.agg cl.toArray=Value.agg cs;rw[HCS2.out]))|fail)
  exact bodyPost_ret (v:=.agg cs) (results_cell_row Tryz.results187 _ _ R _ cs (0,0) _ rfl HX.out Tryz.underlying101 rfl (by rw[HSZ.out];kernel_rfl)) rfl ⟨by rw[HTP.out,HRE.out],by rw[HTP.out];exact HTE.out,HWE.out⟩
theorem tdone_any (w0 w:World)(Lb Mb Pb:Nat)(v:Value)(s:Nat × Bool)(h:TK w0 w Lb Mb Pb v s):
 Calls Tryz.prog 188 #[.pointer (some ⟨Lb,0,none⟩),.pointer (some ⟨Mb,0,none⟩)] w fun e w'=>e=.returned (.bool (decide (s=(0,false))))∧w=w':=by
 obtain⟨k,mi⟩:=s;have k0:=h.l.cell 0 rfl;have k1:=h.m.cell 0 rfl;dsimp only at k0 k1;clear h;by_cases h0:k=0
 ·subst h0;go_enter Tryz.func188,Tryz.ntmps188;go_wp2_with fail;go_ret;refine⟨Qat ?_,rfl⟩;cases mi<;>simp
 ·have h1:¬(k:Int)=0:=by omega
  go_enter Tryz.func188,Tryz.ntmps188;go_wp2_with fail;go_ret;refine⟨Qat ?_,rfl⟩;simp[h0]
def takeV (Lb Mb Pb:Nat):Value:=.func (.func 187) #[] #[.pointer (some ⟨Lb,0,none⟩),.pointer (some ⟨Mb,0,none⟩),.pointer (some ⟨Pb,0,none⟩)]
def doneV (Lb Mb:Nat):Value:=.func (.func 188) #[] #[.pointer (some ⟨Lb,0,none⟩),.pointer (some ⟨Mb,0,none⟩)]
theorem taker_any (w:World)(A:Option Addr)(c n:Nat):
 Calls Tryz.prog 154 #[.slice A n c] w fun e w'=>∃Lb Mb Pb,e=.returned (.tuple #[takeV Lb Mb Pb,doneV Lb Mb])∧TK w w' Lb Mb Pb (.slice A n c) (n,false):=by
 have HP:Hid (ABoxZ (((w.alloc (.cells #[.slice A n c] 90)).alloc (.cells #[.int .i64 (n:Int)] 3)).alloc (.cells #[.bool false] 4)) w.heap.size 90 [.slice A n c]):=Lh (by
  unfold ABoxZ;rw[Below.heap_alloc _ _ _ (by simp;omega),Below.heap_alloc _ _ _ (by simp)];exact heap_alloc_new w _)
 have HL:Hid (ABoxZ (((w.alloc (.cells #[.slice A n c] 90)).alloc (.cells #[.int .i64 (n:Int)] 3)).alloc (.cells #[.bool false] 4)) (w.heap.size+1) 3 [.int .i64 (n:Int)]):=Lh (by
  unfold ABoxZ;rw[Below.heap_alloc _ _ _ (by simp)];exact Qai (by simp))
 have HM:Hid (ABoxZ (((w.alloc (.cells #[.slice A n c] 90)).alloc (.cells #[.int .i64 (n:Int)] 3)).alloc (.cells #[.bool false] 4)) (w.heap.size+1+1) 4 [.bool false]):=Lh (Qai (by simp));have HB:Hid (Below w.heap.size w (((w.alloc (.cells #[.slice A n c] 90)).alloc (.cells #[.int .i64 (n:Int)] 3)).alloc (.cells #[.bool false] 4))):=Lh (((bR.alloc nL _).alloc (by simp) _).alloc (by simp;omega) _);go_enter Tryz.func154,Tryz.ntmps154;go_wp2_with fail;go_ret2;exact⟨_,_,_,rfl,HL.out,HM.out,HP.out,by omega,by omega,by omega,by omega,by omega,by omega,HB.out⟩
def climbP:Nat→List H32→List UInt8→Nat→Nat→Nat × Bool→List UInt8 × (Nat × Bool)
 |0,_,leaf,_,_,s=>(leaf,s)
 |f+1,p,leaf,n,i,s=>if n=1 then(leaf,s) else
  if i<Qam n then(nodeH (climbP f p leaf (Qam n) i (takeP p s).2).1 (takeP p s).1,(climbP f p leaf (Qam n) i (takeP p s).2).2)
  else(nodeH (takeP p s).1 (climbP f p leaf (n-Qam n) (i-Qam n) (takeP p s).2).1,(climbP f p leaf (n-Qam n) (i-Qam n) (takeP p s).2).2)
theorem takeP_32 {p:List H32}(h:∀x∈p,x.l.length=32)(s:Nat × Bool)(hs:s.1≤p.length):(takeP p s).1.length=32∧(takeP p s).2.1≤p.length:=by
 unfold takeP;split
 ·exact⟨rfl,by simp⟩
 ·have hl:s.1-1<p.length:=by omega
  simp only;rw[hAt_eq p _ hl];exact⟨h _ (List.getElem_mem _),by omega⟩
theorem Qc1 {p:List H32}(h:∀x∈p,x.l.length=32){leaf:List UInt8}(hl:leaf.length=32):∀(f n i:Nat) (s:Nat × Bool),s.1≤p.length→(climbP f p leaf n i s).1.length=32∧(climbP f p leaf n i s).2.1≤p.length
 |0,_,_,_,hs=>⟨hl,hs⟩
 |f+1,n,i,s,hs=>by
  rw[climbP];split
  ·exact⟨hl,hs⟩
  ·split
   ·exact⟨Qan _,(Qc1 h hl f _ _ _ (takeP_32 h s hs).2).2⟩
   ·exact⟨Qan _,(Qc1 h hl f _ _ _ (takeP_32 h s hs).2).2⟩
theorem QdC (f:Nat)(p:List H32)(leaf:List UInt8)(i:Nat)(s:Nat × Bool):climbP f p leaf 1 i s=(leaf,s):=by
 cases f with
 |zero=>rfl
 |succ f=>rw[climbP,if_pos rfl]
def QcG (Lf Tb Cb:Nat):Value:=.func (.func 155) #[] #[.pointer (some ⟨Lf,0,none⟩),.pointer (some ⟨Tb,0,none⟩),.pointer (some ⟨Cb,0,none⟩)]
structure CKZ (w0 w:World)(Lb Mb Pb Lf Tb Cb:Nat)(v:Value)(leaf:List UInt8)(s:Nat × Bool):Prop where
 t:TK w0 w Lb Mb Pb v s
 lf:ABoxZ w Lf 101 (leaf.map Qab)
 tb:ABoxZ w Tb 216 [takeV Lb Mb Pb]
 cb:ABoxZ w Cb 219 [QcG Lf Tb Cb]
 nf:¬TF Lb Mb Lf
 nt:¬TF Lb Mb Tb
 nc:¬TF Lb Mb Cb
section
variable {w0 w w':World} {Lb Mb Pb Lf Tb Cb:Nat} {v:Value} {leaf:List UInt8} {s s':Nat × Bool}
theorem CKZ.out (h:CKZ w0 w Lb Mb Pb Lf Tb Cb v leaf s)(ht:TK w0 w' Lb Mb Pb v s')(ho:Out (TF Lb Mb) w w'):CKZ w0 w' Lb Mb Pb Lf Tb Cb v leaf s':=
 ⟨ht,ho.box h.lf h.nf,ho.box h.tb h.nt,ho.box h.cb h.nc,h.nf,h.nt,h.nc⟩
theorem CKZ.to (h:CKZ w0 w Lb Mb Pb Lf Tb Cb v leaf s)(hb:Below w.heap.size w w'):CKZ w0 w' Lb Mb Pb Lf Tb Cb v leaf s:=h.out (h.t.to hb) (Out.of_below hb)
theorem CKZ.setRow (h:CKZ w0 w Lb Mb Pb Lf Tb Cb v leaf s){R:Nat}(h1:¬TF Lb Mb R)(h2:R≠Pb∧R≠Lf∧R≠Tb∧R≠Cb)(h4:w0.heap.size≤R)(cs:Array Value):CKZ w0 (w.setRow R cs) Lb Mb Pb Lf Tb Cb v leaf s:=
 ⟨h.t.setRow (fun e=>h1 (.inl e.symm)) (fun e=>h1 (.inr e.symm)) (Ne.symm h2.1) h4 cs,abox_setRow h.lf (Ne.symm h2.2.1),abox_setRow h.tb (Ne.symm h2.2.2.1),abox_setRow h.cb (Ne.symm h2.2.2.2),h.nf,h.nt,h.nc⟩
end
set_option maxRecDepth 100000 in
theorem climb1_any (w0 w:World)(Lb Mb Pb Lf Tb Cb i:Nat)(v:Value)(leaf:List UInt8)(s:Nat × Bool)(hl:leaf.length=32)(h:CKZ w0 w Lb Mb Pb Lf Tb Cb v leaf s):
 Calls Tryz.prog 155 #[.int .i64 1,.int .i64 (i:Int),.pointer (some ⟨Lf,0,none⟩),.pointer (some ⟨Tb,0,none⟩),.pointer (some ⟨Cb,0,none⟩)] w fun e w'=>e=.returned (Qar leaf)∧TK w0 w' Lb Mb Pb v s∧Out (TF Lb Mb) w w':=by
 have HC0:=Lh (h.to ((Below.refl w.heap.size w).alloc nL (.cells (Qaf.map Qab).toArray 101)));have HR0:Hid (ABoxZ (w.alloc (.cells (Qaf.map Qab).toArray 101)) w.heap.size 101 (Qaf.map Qab)):=Lh (heap_alloc_new w _);have HOW:Hid (Out (TF Lb Mb) w ((w.alloc (.cells (Qaf.map Qab).toArray 101)).setRow w.heap.size (leaf.map Qab).toArray)):=Lh ((Out.of_below ((Below.refl w.heap.size w).alloc nL _)).setRow nL _);have HTE:Hid (TK w0 ((w.alloc (.cells (Qaf.map Qab).toArray 101)).setRow w.heap.size (leaf.map Qab).toArray) Lb Mb Pb v s):=Lh (HC0.out.t.setRow (by have:=h.t.l.lt;omega) (by have:=h.t.m.lt;omega) (by have:=h.t.p.lt;omega) h.t.bs _);have HSZ:=Lh (QaB hl);have HC1:=Lh (QaH leaf);have HZ:Hid ((Qaf.map Qab).toArray.size=32):=Lh rfl;have HRE:Hid (Qar leaf=.agg (leaf.map Qab).toArray):=Lh rfl;have HX:=Lh (setRow_heap _ w.heap.size _ (leaf.map Qab).toArray _ _ HR0.out);have hr0:=HR0.out;have hlf:=HC0.out.lf;unfold ABoxZ at hr0 hlf;clear h hl;go_enter Tryz.func155,Tryz.ntmps155;go_upto_region 1 with(fail);generalize hw1:World.alloc w _=w1;have hw2:w.alloc (.cells (Qaf.map Qab).toArray 101)=w1:=hw1;rw[hw2] at HC0 HR0 HOW HTE HX hr0 hlf;clear hw1 hw2;generalize w.heap.size=R at*;generalize (leaf.map Qab).toArray=cs at*;generalize (Qaf.map Qab).toArray=zs at*
 go_wp2_with (first|(refine wpList_load_row rfl 101 (.tmp 2) rfl Lf ?_ 101 cs (0,0) _ hlf Tryz.underlying101 ?_ ?_ ?_;rfl;rfl;(rw[HSZ.out];kernel_rfl))|(refine wpList_store_row rfl 101 (.tmp 7) (.tmp 12) rfl R cs ?_ ?_ 101 zs hr0 (by rw[HSZ.out];kernel_rfl) (by rw[HZ.out,HSZ.out]) HC1.out ?_;rfl;rfl)|fail)
 exact bodyPost_ret (v:=.agg cs) (results_cell_row Tryz.results155 _ _ R _ cs (0,0) _ rfl HX.out Tryz.underlying101 rfl (by rw[HSZ.out];kernel_rfl)) rfl ⟨by rw[HRE.out],HTE.out,HOW.out⟩
set_option maxRecDepth 100000 in
theorem climb2_any (f:Nat)(w0:World)(Lb Mb Pb Lf Tb Cb:Nat)(A:Option Addr)(c N:Nat)(p:List H32)(leaf:List UInt8)(hl:leaf.length=32)(hK:KLaid w0) (hs:Sl w0 (fun b=>b<w0.heap.size) A c p) (hN:p.length=N) (hN2:N≤9223372036854775807)
 (ih:∀(n i:Nat) (s:Nat × Bool) (w:World),1≤n→n≤f+1→n≤65536→i<n→s.1≤N→CKZ w0 w Lb Mb Pb Lf Tb Cb (.slice A N c) leaf s→ Calls Tryz.prog 155 #[.int .i64 (n:Int),.int .i64 (i:Int),.pointer (some ⟨Lf,0,none⟩),.pointer (some ⟨Tb,0,none⟩),.pointer (some ⟨Cb,0,none⟩)] w fun e w'=>e=.returned (Qar (climbP f p leaf n i s).1)∧TK w0 w' Lb Mb Pb (.slice A N c) (climbP f p leaf n i s).2∧Out (TF Lb Mb) w w')
 (n i:Nat) (s:Nat × Bool) (w:World) (h2:2≤n) (hf:n≤f+2) (hn:n≤65536) (hi:i<n) (hs1:s.1≤N) (h:CKZ w0 w Lb Mb Pb Lf Tb Cb (.slice A N c) leaf s):
 Calls Tryz.prog 155 #[.int .i64 (n:Int),.int .i64 (i:Int),.pointer (some ⟨Lf,0,none⟩),.pointer (some ⟨Tb,0,none⟩),.pointer (some ⟨Cb,0,none⟩)] w fun e w'=>e=.returned (Qar (climbP (f+1) p leaf n i s).1)∧TK w0 w' Lb Mb Pb (.slice A N c) (climbP (f+1) p leaf n i s).2∧Out (TF Lb Mb) w w':=by
 obtain⟨_,_,h3,h4,_⟩:=QaD n h2 (by omega);have HSP:=Lh (QeY n h2 (by omega));have HP32:=Lh (h32_len hs);have HI:=Lh ih;have HK:=Lh hK;obtain⟨tv,s1,hts⟩:∃tv s1,takeP p s=(tv,s1):=⟨_,_,rfl⟩;have HTV:Hid (tv.length=32∧s1.1≤N):=Lh (by have:=takeP_32 (h32_len hs) s (by omega);rw[hts] at this;exact⟨this.1,by have:=this.2;simp only at this;omega⟩)
 have HTK:Hid (∀W,TK w0 W Lb Mb Pb (.slice A N c) s→Calls Tryz.prog 187 #[.pointer (some ⟨Lb,0,none⟩),.pointer (some ⟨Mb,0,none⟩),.pointer (some ⟨Pb,0,none⟩)] W fun e w'=>e=.returned (Qar tv)∧TK w0 w' Lb Mb Pb (.slice A N c) s1∧Out (TF Lb Mb) W w'):=Lh (fun W hW=>by
  have:=take_any w0 W Lb Mb Pb A c N p s hs hN hN2 hs1 hW
  rw[hts] at this;exact this)
 have HCL:Hid (i<Qam n→climbP (f+1) p leaf n i s=(nodeH (climbP f p leaf (Qam n) i s1).1 tv,(climbP f p leaf (Qam n) i s1).2)):=Lh (fun hik=>by rw[climbP,if_neg (by omega),if_pos hik,hts]);have HCR:Hid (¬i<Qam n→climbP (f+1) p leaf n i s=(nodeH tv (climbP f p leaf (n-Qam n) (i-Qam n) s1).1,(climbP f p leaf (n-Qam n) (i-Qam n) s1).2)):=Lh (fun hik=>by rw[climbP,if_neg (by omega),if_neg hik,hts]);have HC32:Hid (∀n i,(climbP f p leaf n i s1).1.length=32):=Lh (fun n i=>(Qc1 (h32_len hs) hl f n i s1 (by have:=HTV.out.2;omega)).1);have HCK0:=Lh (h.to ((Below.refl w.heap.size w).alloc nL (.cells (Qaf.map Qab).toArray 101)));have HR0:Hid (ABoxZ (w.alloc (.cells (Qaf.map Qab).toArray 101)) w.heap.size 101 (Qaf.map Qab)):=Lh (heap_alloc_new w _);have HOU0:Hid (Out (TF Lb Mb) w (w.alloc (.cells (Qaf.map Qab).toArray 101))):=Lh (Out.of_below ((Below.refl w.heap.size w).alloc nL _));have hRF:Hid (¬TF Lb Mb w.heap.size):=Lh (by have h1:=h.t.l.lt;have h2:=h.t.m.lt;rintro(h|h)<;>omega);have hRC:Hid (w.heap.size≠Pb∧w.heap.size≠Lf∧w.heap.size≠Tb∧w.heap.size≠Cb∧w0.heap.size≤w.heap.size):=Lh ⟨by have:=h.t.p.lt;omega,by have:=h.lf.lt;omega,by have:=h.tb.lt;omega,by have:=h.cb.lt;omega,h.t.bs⟩;have HTSZ:=Lh (QaB HTV.out.1);have HZ:Hid ((Qaf.map Qab).toArray.size=32):=Lh rfl;have HF:=Lh hf;have hn1:((n:Int)==1)=false:=by rw[beq_eq_false_iff_ne];omega
 clear h hs hl hK ih hts hf;generalize Qam n=k at*;go_enter Tryz.func155,Tryz.ntmps155;go_upto_region 3 with(fail);generalize hw1:World.alloc w _=w1;have hw2:w.alloc (.cells (Qaf.map Qab).toArray 101)=w1:=hw1;rw[hw2] at HCK0 HR0 HOU0;clear hw1 hw2;obtain⟨R,hR⟩:∃R,R=w.heap.size:=⟨_,rfl⟩;have HRW:=Lh hR;rw[←hR] at HR0 hRF hRC ⊢;clear hR;go_cut [8,9] from 13 to 17 (fun k9 p9 wx=>∃H,k9=.int .i64 (k:Int)∧p9=.pointer (some ⟨H,0,none⟩)∧Hid (ABoxZ wx H 101 (tv.map Qab))∧Hid (ABoxZ wx R 101 (Qaf.map Qab))∧Hid (CKZ w0 wx Lb Mb Pb Lf Tb Cb (.slice A N c) leaf s1)∧Hid (Out (TF Lb Mb) w wx)∧Hid (¬TF Lb Mb H)∧Hid (H≠R∧w.heap.size≤H));case first=>
  have hb0:Below w1.heap.size w1 w1.drew:=bR.drew;have hck0:=Lh (HCK0.out.to hb0);have hou0:=Lh (HOU0.out.trans (Out.of_below (F:=TF Lb Mb) hb0));have hR0:=Lh (HR0.out.to hb0);have HWS:Hid (w.heap.size≤w1.drew.heap.size):=Lh hou0.out.size;clear hb0;refine Qaj (fun w'=>w'.cell? ⟨Tb,0,none⟩=some (takeV Lb Mb Pb)) (fun i=>decide (i≤4∧i≠3)) (by kernel_rfl) ?_;generalize w1.drew=W0 at*;refine tE 0 ⟨some 13,Op.move (.tmp 0),3,_,_,_⟩ ?_ rfl ?zq0 (hck0.out.tb.cell 0 rfl) ?zq1;(case zq0=>intro wS hSw;(try dsimp only at hSw);go_simp;(try with_reducible rfl));(all_goals try go_frame);refine tE 2 ⟨some 15,Op.load 216 (.tmp 3),216,_,_,_⟩ ?_ rfl ?zq2 (hck0.out.tb.cell 0 rfl) ?zq3;(case zq2=>intro wS hSw;(try dsimp only at hSw);go_simp;(try with_reducible rfl));(all_goals try go_frame);refine QaW (i:=1) (j:=4) (oi:=⟨some 14,Op.call {callee:=Callee.value (Operand.func 152),args:=#[Operand.tmp 13],argTypes:=#[3]},3,_,_,_⟩) (oj:=⟨some 9,Op.alloc 101,0,_,_,_⟩) (by kernel_rfl) rfl rfl (by rfl) (by rfl) (fun K hK=>?_) (fun K hK=>?_)
  ·go_simp;go_at_call 152;refine(HSP.out W0).mono ?_;rintro e w9 ⟨rfl,rfl⟩;go_simp;refine hK _ _ (fun _=>?_) ?_
   ·exact hck0.out.tb.cell 0 rfl
   clear hK K;(try go_frame);refine QaW (i:=3) (j:=4) (oi:=⟨some 16,Op.call {callee:=Callee.value (.tmp 15),args:=#[],argTypes:=#[]},101,_,_,_⟩) (oj:=⟨some 9,Op.alloc 101,0,_,_,_⟩) (by kernel_rfl) rfl rfl (by rfl) (by rfl) (fun K hK=>?_) (fun K hK=>?_)
   ·go_simp;unfold takeV;go_simp;go_at_call 187;refine(HTK.out W0 hck0.out.t).mono ?_;rintro e W1 ⟨rfl,ht1,ho1⟩;have hck1:=Lh (hck0.out.out ht1 ho1);have hou1:=Lh (hou0.out.trans ho1);have hR1:=Lh (ho1.box hR0.out hRF.out);go_simp;refine hK _ _ (fun h=>absurd h (by decide)) ?_;clear hK K;(try go_frame);refine tD 4 ⟨some 9,Op.alloc 101,0,_,_,_⟩ rfl fun K hK=>?_
    go_simp;have hck2:=Lh (hck1.out.to ((Below.refl W1.heap.size W1).alloc nL (.cells (Qaf.map Qab).toArray 101)));have hou2:=Lh (hou1.out.trans (Out.of_below (F:=TF Lb Mb) ((Below.refl W1.heap.size W1).alloc nL (.cells (Qaf.map Qab).toArray 101))));have hR2:=Lh (hR1.out.to ((Below.refl W1.heap.size W1).alloc nL (.cells (Qaf.map Qab).toArray 101)));have hZ2:=Lh (hck1.out.t.bs);have hH2:Hid (ABoxZ (W1.alloc (.cells (Qaf.map Qab).toArray 101)) W1.heap.size 101 (Qaf.map Qab)):=Lh (heap_alloc_new W1 _);have hHF:Hid (¬TF Lb Mb W1.heap.size):=Lh (by have h1:=hck1.out.t.l.lt;have h2:=hck1.out.t.m.lt;rintro(h|h)<;>omega);have hHC:Hid (W1.heap.size≠Pb∧W1.heap.size≠Lf∧W1.heap.size≠Tb∧W1.heap.size≠Cb):=Lh ⟨by have:=hck1.out.t.p.lt;omega,by have:=hck1.out.lf.lt;omega,by have:=hck1.out.tb.lt;omega,by have:=hck1.out.cb.lt;omega⟩;have hHR:Hid (W1.heap.size≠R∧w.heap.size≤W1.heap.size):=Lh ⟨by have:=hR1.out.lt;omega,hou1.out.size⟩;refine hK _ _ (fun _=>?_) ?_
    ·exact hck2.out.tb.cell 0 rfl
    clear hK K;generalize hal:World.alloc W1 _=W2;have hal2:W1.alloc (.cells (Qaf.map Qab).toArray 101)=W2:=hal;rw[hal2] at hck2 hou2 hR2 hH2;clear hal hal2;generalize W1.heap.size=H at*;(try go_frame);refine tD 5 ⟨some 8,Op.assign (.tmp 14),3,_,_,_⟩ rfl fun K hK=>?_
    go_simp;refine hK _ _ (fun h=>absurd h (by decide)) ?_;clear hK K;(try go_frame);refine tD 6 ⟨none,Op.store 101 (.tmp 9) (.tmp 16),0,_,_,_⟩ rfl fun K hK=>?_
    have hq:=hH2.out;unfold ABoxZ at hq;refine wp_store_row 101 (.tmp 9) (.tmp 16) rfl H (tv.map Qab).toArray ?_ ?_ 101 (Qaf.map Qab).toArray hq (by rw[HTSZ.out];kernel_rfl) (by rw[HTSZ.out];rfl) (QaH tv) ?_
    ·rfl
    ·rfl
    refine hK _ _ (fun h=>absurd h (by decide)) ?_;clear hK K;(try simp only[Act.put]);refine Qae (by kernel_rfl) ?_ _;unfold Exit.then;(try go_wp2_with fail);go_meet;exact⟨H,rfl,rfl,Lh (setRow_heap _ H _ _ _ _ hq),Lh (abox_setRow hR2.out (Ne.symm hHR.out.1)),Lh (hck2.out.setRow hHF.out hHC.out (by have:=hHR.out;have:=hRC.out;have:=HRW.out;omega) _),Lh (hou2.out.setRow hHR.out.2 _),hHF,hHR⟩
   ·go_simp;have hck1:=Lh (hck0.out.to ((Below.refl W0.heap.size W0).alloc nL (.cells (Qaf.map Qab).toArray 101)));have hou1:=Lh (hou0.out.trans (Out.of_below (F:=TF Lb Mb) ((Below.refl W0.heap.size W0).alloc nL (.cells (Qaf.map Qab).toArray 101))));have hR1:=Lh (hR0.out.to ((Below.refl W0.heap.size W0).alloc nL (.cells (Qaf.map Qab).toArray 101)));have hZ1:=Lh (hck0.out.t.bs);have hH1:Hid (ABoxZ (W0.alloc (.cells (Qaf.map Qab).toArray 101)) W0.heap.size 101 (Qaf.map Qab)):=Lh (heap_alloc_new W0 _);have hHF:Hid (¬TF Lb Mb W0.heap.size):=Lh (by have h1:=hck0.out.t.l.lt;have h2:=hck0.out.t.m.lt;rintro(h|h)<;>omega);have hHC:Hid (W0.heap.size≠Pb∧W0.heap.size≠Lf∧W0.heap.size≠Tb∧W0.heap.size≠Cb):=Lh ⟨by have:=hck0.out.t.p.lt;omega,by have:=hck0.out.lf.lt;omega,by have:=hck0.out.tb.lt;omega,by have:=hck0.out.cb.lt;omega⟩;have hHR:Hid (W0.heap.size≠R∧w.heap.size≤W0.heap.size):=Lh ⟨by have:=hR0.out.lt;omega,hou0.out.size⟩;refine hK _ _ (fun _=>?_) ?_
    ·exact hck1.out.tb.cell 0 rfl
    clear hK K;generalize hal:World.alloc W0 _=W1;have hal2:W0.alloc (.cells (Qaf.map Qab).toArray 101)=W1:=hal;rw[hal2] at hck1 hou1 hR1 hH1;clear hal hal2;generalize W0.heap.size=H at*;(try go_frame);refine tD 3 ⟨some 16,Op.call {callee:=Callee.value (.tmp 15),args:=#[],argTypes:=#[]},101,_,_,_⟩ rfl fun K hK=>?_
    go_simp;unfold takeV;go_simp;go_at_call 187;refine(HTK.out W1 hck1.out.t).mono ?_;rintro e W2 ⟨rfl,ht2,ho2⟩;have hck2:=Lh (hck1.out.out ht2 ho2);have hou2:=Lh (hou1.out.trans ho2);have hR2:=Lh (ho2.box hR1.out hRF.out);have hH2:=Lh (ho2.box hH1.out hHF.out);go_simp;refine hK _ _ (fun h=>absurd h (by decide)) ?_;clear hK K;(try go_frame);refine tD 5 ⟨some 8,Op.assign (.tmp 14),3,_,_,_⟩ rfl fun K hK=>?_
    go_simp;refine hK _ _ (fun h=>absurd h (by decide)) ?_;clear hK K;(try go_frame);refine tD 6 ⟨none,Op.store 101 (.tmp 9) (.tmp 16),0,_,_,_⟩ rfl fun K hK=>?_
    have hq:=hH2.out;unfold ABoxZ at hq;refine wp_store_row 101 (.tmp 9) (.tmp 16) rfl H (tv.map Qab).toArray ?_ ?_ 101 (Qaf.map Qab).toArray hq (by rw[HTSZ.out];kernel_rfl) (by rw[HTSZ.out];rfl) (QaH tv) ?_
    ·rfl
    ·rfl
    refine hK _ _ (fun h=>absurd h (by decide)) ?_;clear hK K;(try simp only[Act.put]);refine Qae (by kernel_rfl) ?_ _;unfold Exit.then;(try go_wp2_with fail);go_meet;exact⟨H,rfl,rfl,Lh (setRow_heap _ H _ _ _ _ hq),Lh (abox_setRow hR2.out (Ne.symm hHR.out.1)),Lh (hck2.out.setRow hHF.out hHC.out (by have:=hHR.out;have:=hRC.out;have:=HRW.out;omega) _),Lh (hou2.out.setRow hHR.out.2 _),hHF,hHR⟩
  ·go_simp;have hck1:=Lh (hck0.out.to ((Below.refl W0.heap.size W0).alloc nL (.cells (Qaf.map Qab).toArray 101)));have hou1:=Lh (hou0.out.trans (Out.of_below (F:=TF Lb Mb) ((Below.refl W0.heap.size W0).alloc nL (.cells (Qaf.map Qab).toArray 101))));have hR1:=Lh (hR0.out.to ((Below.refl W0.heap.size W0).alloc nL (.cells (Qaf.map Qab).toArray 101)));have hZ1:=Lh (hck0.out.t.bs);have hH1:Hid (ABoxZ (W0.alloc (.cells (Qaf.map Qab).toArray 101)) W0.heap.size 101 (Qaf.map Qab)):=Lh (heap_alloc_new W0 _);have hHF:Hid (¬TF Lb Mb W0.heap.size):=Lh (by have h1:=hck0.out.t.l.lt;have h2:=hck0.out.t.m.lt;rintro(h|h)<;>omega);have hHC:Hid (W0.heap.size≠Pb∧W0.heap.size≠Lf∧W0.heap.size≠Tb∧W0.heap.size≠Cb):=Lh ⟨by have:=hck0.out.t.p.lt;omega,by have:=hck0.out.lf.lt;omega,by have:=hck0.out.tb.lt;omega,by have:=hck0.out.cb.lt;omega⟩;have hHR:Hid (W0.heap.size≠R∧w.heap.size≤W0.heap.size):=Lh ⟨by have:=hR0.out.lt;omega,hou0.out.size⟩;refine hK _ _ (fun _=>?_) ?_
   ·exact hck1.out.tb.cell 0 rfl
   clear hK K;generalize hal:World.alloc W0 _=W1;have hal2:W0.alloc (.cells (Qaf.map Qab).toArray 101)=W1:=hal;rw[hal2] at hck1 hou1 hR1 hH1;clear hal hal2;generalize W0.heap.size=H at*;(try go_frame);refine tD 1 ⟨some 14,Op.call {callee:=Callee.value (Operand.func 152),args:=#[Operand.tmp 13],argTypes:=#[3]},3,_,_,_⟩ rfl fun K hK=>?_
   go_simp;go_at_call 152;refine(HSP.out W1).mono ?_;rintro e w9 ⟨rfl,rfl⟩;go_simp;refine hK _ _ (fun _=>?_) ?_
   ·exact hck1.out.tb.cell 0 rfl
   clear hK K;(try go_frame);refine tD 3 ⟨some 16,Op.call {callee:=Callee.value (.tmp 15),args:=#[],argTypes:=#[]},101,_,_,_⟩ rfl fun K hK=>?_
   go_simp;unfold takeV;go_simp;go_at_call 187;refine(HTK.out W1 hck1.out.t).mono ?_;rintro e W2 ⟨rfl,ht2,ho2⟩;have hck2:=Lh (hck1.out.out ht2 ho2);have hou2:=Lh (hou1.out.trans ho2);have hR2:=Lh (ho2.box hR1.out hRF.out);have hH2:=Lh (ho2.box hH1.out hHF.out);go_simp;refine hK _ _ (fun h=>absurd h (by decide)) ?_;clear hK K;(try go_frame);refine tD 5 ⟨some 8,Op.assign (.tmp 14),3,_,_,_⟩ rfl fun K hK=>?_
   go_simp;refine hK _ _ (fun h=>absurd h (by decide)) ?_;clear hK K;(try go_frame);refine tD 6 ⟨none,Op.store 101 (.tmp 9) (.tmp 16),0,_,_,_⟩ rfl fun K hK=>?_
   have hq:=hH2.out;unfold ABoxZ at hq;refine wp_store_row 101 (.tmp 9) (.tmp 16) rfl H (tv.map Qab).toArray ?_ ?_ 101 (Qaf.map Qab).toArray hq (by rw[HTSZ.out];kernel_rfl) (by rw[HTSZ.out];rfl) (QaH tv) ?_
   ·rfl
   ·rfl
   refine hK _ _ (fun h=>absurd h (by decide)) ?_;clear hK K;(try simp only[Act.put]);refine Qae (by kernel_rfl) ?_ _;unfold Exit.then;(try go_wp2_with fail);go_meet;exact⟨H,rfl,rfl,Lh (setRow_heap _ H _ _ _ _ hq),Lh (abox_setRow hR2.out (Ne.symm hHR.out.1)),Lh (hck2.out.setRow hHF.out hHC.out (by have:=hHR.out;have:=hRC.out;have:=HRW.out;omega) _),Lh (hou2.out.setRow hHR.out.2 _),hHF,hHR⟩
 case rest=>
  obtain⟨H,rfl,rfl,HHB,HRB,HCK,HOU,HHF,HHR⟩:=hcut;have HF1:=HF.out;by_cases hik:i<k
  ·have hik':(i:Int)<(k:Int):=by omega
   obtain⟨cv,s2,hcs⟩:∃cv s2,climbP f p leaf k i s1=(cv,s2):=⟨_,_,rfl⟩;have HCE:Hid (climbP (f+1) p leaf n i s=(nodeH cv tv,s2)):=Lh (by rw[HCL.out hik,hcs]);have HC32:Hid (∀_ _:Nat,cv.length=32):=Lh (fun _ _=>by have:=HC32.out k i;rw[hcs] at this;exact this)
   have HCLI:Hid (∀W,CKZ w0 W Lb Mb Pb Lf Tb Cb (.slice A N c) leaf s1→Calls Tryz.prog 155 #[.int .i64 (k:Int),.int .i64 (i:Int),.pointer (some ⟨Lf,0,none⟩),.pointer (some ⟨Tb,0,none⟩),.pointer (some ⟨Cb,0,none⟩)] W fun e w'=>e=.returned (Qar cv)∧TK w0 w' Lb Mb Pb (.slice A N c) s2∧Out (TF Lb Mb) W w'):=Lh (fun W hW=>by
    have:=HI.out k i s1 W (by omega) (by omega) (by omega) hik HTV.out.2 hW
    rw[hcs] at this;exact this)
   clear hcs HI HCL HCR HTK HSP;go_upto_region 5 with(fail);refine Qaj (fun w'=>w'.cell? ⟨Cb,0,none⟩=some (QcG Lf Tb Cb)∧w'.heap[H]? =some (.cells (tv.map Qab).toArray 101 (0,0))) (fun i=>decide (i<5)) (by kernel_rfl) ?_;have hb0:Below wc.heap.size wc wc.drew:=bR.drew;have hck0:=Lh (HCK.out.to hb0);have hou0:=Lh (HOU.out.trans (Out.of_below (F:=TF Lb Mb) hb0));have hR0:=Lh (HRB.out.to hb0);have hH0:=Lh (HHB.out.to hb0);clear hb0;generalize wc.drew=W0 at*;refine tE 0 ⟨some 20,Op.load 219 (.tmp 4),219,_,_,_⟩ ?_ rfl ?zq4 (⟨hck0.out.cb.cell 0 rfl,hH0.out⟩) ?zq5;(case zq4=>intro wS hSw;(try dsimp only at hSw);go_simp;(try with_reducible rfl));(all_goals try go_frame);refine tE 1 ⟨some 21,Op.move (.tmp 8),3,_,_,_⟩ ?_ rfl ?zq6 (⟨hck0.out.cb.cell 0 rfl,hH0.out⟩) ?zq7;(case zq6=>intro wS hSw;(try dsimp only at hSw);go_simp;(try with_reducible rfl));(all_goals try go_frame);refine tE 2 ⟨some 22,Op.move (.tmp 1),3,_,_,_⟩ ?_ rfl ?zq8 (⟨hck0.out.cb.cell 0 rfl,hH0.out⟩) ?zq9;(case zq8=>intro wS hSw;(try dsimp only at hSw);go_simp;(try with_reducible rfl));(all_goals try go_frame);refine tE 4 ⟨some 24,Op.load 101 (.tmp 9),101,_,_,_⟩ ?_ rfl ?zq10 (⟨hck0.out.cb.cell 0 rfl,hH0.out⟩) ?zq11;(case zq10=>intro wS hSw;refine Qa0 101 (.tmp 9) ?_ H ?_ 101 (tv.map Qab).toArray (0,0) _ hSw.2 Tryz.underlying101 ?_ ?_;rfl;rfl;rfl;(rw[HTSZ.out];kernel_rfl));(all_goals try go_frame);refine tD 3 ⟨some 23,Op.call {callee:=Callee.value (.tmp 20),args:=#[Operand.tmp 21,Operand.tmp 22],argTypes:=#[3,3]},101,_,_,_⟩ rfl fun K hK=>?_
   go_simp;unfold QcG;go_simp;go_at_call 155;refine(HCLI.out W0 hck0.out).mono ?_;rintro e W2 ⟨rfl,ht2,ho2⟩;have hck2:=Lh (hck0.out.out ht2 ho2);have hou2:=Lh (hou0.out.trans ho2);have hR2:=Lh (ho2.box hR0.out hRF.out);have hH2:=Lh (ho2.box hH0.out HHF.out);go_simp;refine hK _ _ (fun _=>?_) ?_
   ·exact⟨hck2.out.cb.cell 0 rfl,hH2.out⟩
   clear hK K;(try go_frame);refine tD 5 ⟨some 25,Op.call {callee:=Callee.value (Operand.func 102),args:=#[Operand.tmp 23,Operand.tmp 24],argTypes:=#[101,101]},101,_,_,_⟩ rfl fun K hK=>?_
   go_simp;go_at_call 102;refine(Qd4 cv tv (HC32.out 0 0) HTV.out.1 W2 (HK.out.to hck2.out.t.b)).mono ?_;rintro e W3 ⟨rfl,hb3⟩;have hck3:=Lh (hck2.out.to hb3);have hou3:=Lh (hou2.out.trans (Out.of_below (F:=TF Lb Mb) hb3));have hR3:=Lh (hR2.out.to hb3);go_simp;refine hK _ _ (fun h=>absurd h (by decide)) ?_;clear hK K;(try go_frame);refine tD 6 ⟨none,Op.store 101 (.tmp 7) (.tmp 25),0,_,_,_⟩ rfl fun K hK=>?_
   have hq:=hR3.out;unfold ABoxZ at hq;have HQS:=Lh (QaB (show(nodeH cv tv).length=32 from Qan _));refine wp_store_row 101 (.tmp 7) (.tmp 25) rfl R ((nodeH cv tv).map Qab).toArray ?_ ?_ 101 (Qaf.map Qab).toArray hq (by rw[HQS.out];kernel_rfl) (by rw[HQS.out];rfl) (QaH _) ?_
   ·rfl
   ·rfl
   refine hK _ _ (fun h=>absurd h (by decide)) ?_;clear hK K;(try simp only[Act.put]);refine Qae (by kernel_rfl) ?_ _;unfold Exit.then;go_wp2_with fail;have HX:=Lh (setRow_heap _ R _ ((nodeH cv tv).map Qab).toArray _ _ hq);exact bodyPost_ret (v:=.agg ((nodeH cv tv).map Qab).toArray) (results_cell_row Tryz.results155 _ _ R _ _ (0,0) _ rfl HX.out Tryz.underlying101 rfl (by rw[HQS.out];kernel_rfl)) rfl ⟨by rw[HCE.out];rfl,by rw[HCE.out];exact(hck3.out.setRow hRF.out ⟨hRC.out.1,hRC.out.2.1,hRC.out.2.2.1,hRC.out.2.2.2.1⟩ hRC.out.2.2.2.2 _).t,hou3.out.setRow (by have:=HRW.out;omega) _⟩
  ·have hik':¬(i:Int)<(k:Int):=by omega
   obtain⟨cv,s2,hcs⟩:∃cv s2,climbP f p leaf (n-k) (i-k) s1=(cv,s2):=⟨_,_,rfl⟩;have HCE:Hid (climbP (f+1) p leaf n i s=(nodeH tv cv,s2)):=Lh (by rw[HCR.out hik,hcs]);have HC32:Hid (∀_ _:Nat,cv.length=32):=Lh (fun _ _=>by have:=HC32.out (n-k) (i-k);rw[hcs] at this;exact this)
   have HCLI:Hid (∀W,CKZ w0 W Lb Mb Pb Lf Tb Cb (.slice A N c) leaf s1→Calls Tryz.prog 155 #[.int .i64 ((n:Int)-(k:Int)),.int .i64 ((i:Int)-(k:Int)),.pointer (some ⟨Lf,0,none⟩),.pointer (some ⟨Tb,0,none⟩),.pointer (some ⟨Cb,0,none⟩)] W fun e w'=>e=.returned (Qar cv)∧TK w0 w' Lb Mb Pb (.slice A N c) s2∧Out (TF Lb Mb) W w'):=Lh (fun W hW=>by
    have:=HI.out (n-k) (i-k) s1 W (by omega) (by omega) (by omega) (by omega) HTV.out.2 hW
    rw[hcs,show((n-k:Nat):Int)=(n:Int)-(k:Int) by omega,show((i-k:Nat):Int)=(i:Int)-(k:Int) by omega] at this;exact this)
   have hw1:IntKind.i64.wrap ((n:Int)-(k:Int))=(n:Int)-(k:Int):=(by rw[IntWalk.i64_in _ (by omega)]);have hw2:IntKind.i64.wrap ((i:Int)-(k:Int))=(i:Int)-(k:Int):=(by rw[IntWalk.i64_in _ (by omega)]);clear hcs HI HCL HCR HTK HSP;go_upto_region 6 with(fail);refine Qaj (fun w'=>w'.cell? ⟨Cb,0,none⟩=some (QcG Lf Tb Cb)∧w'.heap[H]? =some (.cells (tv.map Qab).toArray 101 (0,0))) (fun i=>decide (i<9)) (by kernel_rfl) ?_;have hb0:Below wc.heap.size wc wc.drew:=bR.drew;have hck0:=Lh (HCK.out.to hb0);have hou0:=Lh (HOU.out.trans (Out.of_below (F:=TF Lb Mb) hb0));have hR0:=Lh (HRB.out.to hb0);have hH0:=Lh (HHB.out.to hb0);clear hb0;generalize wc.drew=W0 at*;refine tE 0 ⟨some 26,Op.load 101 (.tmp 9),101,_,_,_⟩ ?_ rfl ?zq12 (⟨hck0.out.cb.cell 0 rfl,hH0.out⟩) ?zq13;(case zq12=>intro wS hSw;refine Qa0 101 (.tmp 9) ?_ H ?_ 101 (tv.map Qab).toArray (0,0) _ hSw.2 Tryz.underlying101 ?_ ?_;rfl;rfl;rfl;(rw[HTSZ.out];kernel_rfl));(all_goals try go_frame);refine tE 1 ⟨some 27,Op.load 219 (.tmp 4),219,_,_,_⟩ ?_ rfl ?zq14 (⟨hck0.out.cb.cell 0 rfl,hH0.out⟩) ?zq15;(case zq14=>intro wS hSw;(try dsimp only at hSw);go_simp;(try with_reducible rfl));(all_goals try go_frame);refine tE 2 ⟨some 28,Op.move (.tmp 0),3,_,_,_⟩ ?_ rfl ?zq16 (⟨hck0.out.cb.cell 0 rfl,hH0.out⟩) ?zq17;(case zq16=>intro wS hSw;(try dsimp only at hSw);go_simp;(try with_reducible rfl));(all_goals try go_frame);refine tE 3 ⟨some 29,Op.move (.tmp 8),3,_,_,_⟩ ?_ rfl ?zq18 (⟨hck0.out.cb.cell 0 rfl,hH0.out⟩) ?zq19;(case zq18=>intro wS hSw;(try dsimp only at hSw);go_simp;(try with_reducible rfl));(all_goals try go_frame);refine tE 4 ⟨some 30,Op.binOp BinOp.sub 3 (.tmp 28) (.tmp 29) 3,3,_,_,_⟩ ?_ rfl ?zq20 (⟨hck0.out.cb.cell 0 rfl,hH0.out⟩) ?zq21;(case zq20=>intro wS hSw;(try dsimp only at hSw);go_simp;(try with_reducible rfl));(all_goals try go_frame);refine tE 5 ⟨some 31,Op.move (.tmp 1),3,_,_,_⟩ ?_ rfl ?zq22 (⟨hck0.out.cb.cell 0 rfl,hH0.out⟩) ?zq23;(case zq22=>intro wS hSw;(try dsimp only at hSw);go_simp;(try with_reducible rfl));(all_goals try go_frame);refine tE 6 ⟨some 32,Op.move (.tmp 8),3,_,_,_⟩ ?_ rfl ?zq24 (⟨hck0.out.cb.cell 0 rfl,hH0.out⟩) ?zq25;(case zq24=>intro wS hSw;(try dsimp only at hSw);go_simp;(try with_reducible rfl));(all_goals try go_frame);refine tE 7 ⟨some 33,Op.binOp BinOp.sub 3 (.tmp 31) (.tmp 32) 3,3,_,_,_⟩ ?_ rfl ?zq26 (⟨hck0.out.cb.cell 0 rfl,hH0.out⟩) ?zq27;(case zq26=>intro wS hSw;(try dsimp only at hSw);go_simp;(try with_reducible rfl));(all_goals try go_frame);refine tD 8 ⟨some 34,Op.call {callee:=Callee.value (.tmp 27),args:=#[Operand.tmp 30,Operand.tmp 33],argTypes:=#[3,3]},101,_,_,_⟩ rfl fun K hK=>?_
   go_simp;unfold QcG;go_simp;go_at_call 155;refine(HCLI.out W0 hck0.out).mono ?_;rintro e W2 ⟨rfl,ht2,ho2⟩;have hck2:=Lh (hck0.out.out ht2 ho2);have hou2:=Lh (hou0.out.trans ho2);have hR2:=Lh (ho2.box hR0.out hRF.out);have hH2:=Lh (ho2.box hH0.out HHF.out);go_simp;refine hK _ _ (fun _=>?_) ?_
   ·exact⟨hck2.out.cb.cell 0 rfl,hH2.out⟩
   clear hK K;(try go_frame);refine tD 9 ⟨some 35,Op.call {callee:=Callee.value (Operand.func 102),args:=#[Operand.tmp 26,Operand.tmp 34],argTypes:=#[101,101]},101,_,_,_⟩ rfl fun K hK=>?_
   go_simp;go_at_call 102;refine(Qd4 tv cv HTV.out.1 (HC32.out 0 0) W2 (HK.out.to hck2.out.t.b)).mono ?_;rintro e W3 ⟨rfl,hb3⟩;have hck3:=Lh (hck2.out.to hb3);have hou3:=Lh (hou2.out.trans (Out.of_below (F:=TF Lb Mb) hb3));have hR3:=Lh (hR2.out.to hb3);go_simp;refine hK _ _ (fun h=>absurd h (by decide)) ?_;clear hK K;(try go_frame);refine tD 10 ⟨none,Op.store 101 (.tmp 7) (.tmp 35),0,_,_,_⟩ rfl fun K hK=>?_
   have hq:=hR3.out;unfold ABoxZ at hq;have HQS:=Lh (QaB (show(nodeH tv cv).length=32 from Qan _));refine wp_store_row 101 (.tmp 7) (.tmp 35) rfl R ((nodeH tv cv).map Qab).toArray ?_ ?_ 101 (Qaf.map Qab).toArray hq (by rw[HQS.out];kernel_rfl) (by rw[HQS.out];rfl) (QaH _) ?_
   ·rfl
   ·rfl
   refine hK _ _ (fun h=>absurd h (by decide)) ?_;clear hK K;(try simp only[Act.put]);refine Qae (by kernel_rfl) ?_ _;unfold Exit.then;go_wp2_with fail;have HX:=Lh (setRow_heap _ R _ ((nodeH tv cv).map Qab).toArray _ _ hq);exact bodyPost_ret (v:=.agg ((nodeH tv cv).map Qab).toArray) (results_cell_row Tryz.results155 _ _ R _ _ (0,0) _ rfl HX.out Tryz.underlying101 rfl (by rw[HQS.out];kernel_rfl)) rfl ⟨by rw[HCE.out];rfl,by rw[HCE.out];exact(hck3.out.setRow hRF.out ⟨hRC.out.1,hRC.out.2.1,hRC.out.2.2.1,hRC.out.2.2.2.1⟩ hRC.out.2.2.2.2 _).t,hou3.out.setRow (by have:=HRW.out;omega) _⟩
section
variable {P:Program} {ops:Array Oper} {Q:Exit→Act→World→Prop} {md:Region.Mode} {S:World→Prop} {hd:Nat→Bool}
theorem QeQ {i:Nat}{oi:Oper}{fuel:Nat}{listed:Array Bool}{a:Act}{w:World}(hi:ops[i]? =some oi)(hr:Region.ready md ops listed=[i])(hw:Region.wanted oi (yielded ops a.tmps)=false)(hS:hd i=true→S w) (h:wpAnyD P md ops Q S hd fuel (listed.setIfInBounds i true) (a.put oi.dst undef) w):wpAnyD P md ops Q S hd (fuel+1) listed a w:=by
 refine⟨fun h0=>(by rw[hr] at h0;cases h0),fun j hj=>?_⟩;rw[hr,List.mem_singleton] at hj;subst hj;unfold wpOp;simp only[hi,hw,Bool.false_eq_true,if_false];exact⟨hS,h⟩
end
theorem wp_eqlH {o:Oper}{a:Act}{K:Act→World→Prop}{Q:Exit→Act→World→Prop}{w:World}(x y:Operand)(ho:o.op=.binOp .eql 101 x y 101)(l m:List UInt8)(hx:a.eval x=Qar l)(hy:a.eval y=Qar m)(hl:l.length=32)(hm:m.length=32) (h:K (a.put o.dst (.bool (decide (l=m)))) w):o.wp Tryz.prog a w K Q:=by
 have h1:=QdL l m hl hm w;have hq:(execOp a.eval o).run Tryz.prog w=.ok (.value (.bool (decide (l=m)))) w:=by
  unfold execOp;unfold Qar at hx hy;simp only[ho,hx,hy,Sem.run_bind,run_eqGuard_agg w .eql 101 x y _ _ guard_h,h1,Result.andThen_ok,Sem.run_pure]
 unfold Oper.wp;rw[hq];exact h
def QdF (cv root:List UInt8)(s:Nat × Bool):Bool:=decide (cv=root)&&decide (s=(0,false))
def Qa3 (root:List UInt8)(n i:Int)(leaf:List UInt8)(p:List H32):Bool:=
 decide (0≤i∧i<n∧n≤65536)&&QdF (climbP n.toNat p leaf n.toNat i.toNat (p.length,false)).1 root (climbP n.toNat p leaf n.toNat i.toNat (p.length,false)).2
theorem climb_any (w0:World)(Lb Mb Pb Lf Tb Cb:Nat)(A:Option Addr)(c N:Nat)(p:List H32)(leaf:List UInt8)(hl:leaf.length=32)(hK:KLaid w0)
 (hs:Sl w0 (fun b=>b<w0.heap.size) A c p) (hN:p.length=N) (hN2:N≤9223372036854775807):∀(f n i:Nat) (s:Nat × Bool) (w:World),1≤n→n≤f+1→n≤65536→i<n→s.1≤N→CKZ w0 w Lb Mb Pb Lf Tb Cb (.slice A N c) leaf s→ Calls Tryz.prog 155 #[.int .i64 (n:Int),.int .i64 (i:Int),.pointer (some ⟨Lf,0,none⟩),.pointer (some ⟨Tb,0,none⟩),.pointer (some ⟨Cb,0,none⟩)] w fun e w'=>e=.returned (Qar (climbP f p leaf n i s).1)∧TK w0 w' Lb Mb Pb (.slice A N c) (climbP f p leaf n i s).2∧Out (TF Lb Mb) w w':=by
 intro f;induction f with
 |zero=>
  intro n i s w h1 h2 _ _ hs1 h;obtain rfl:n=1:=by omega
  rw[QdC];exact climb1_any w0 w Lb Mb Pb Lf Tb Cb i _ leaf s hl h
 |succ f ih=>
  intro n i s w h1 h2 h3 h4 hs1 h;by_cases hn:n=1
  ·subst hn;rw[QdC];exact climb1_any w0 w Lb Mb Pb Lf Tb Cb i _ leaf s hl h
  ·exact climb2_any f w0 Lb Mb Pb Lf Tb Cb A c N p leaf hl hK hs hN hN2 ih n i s w (by omega) h2 h3 h4 hs1 h
set_option maxRecDepth 100000 in
theorem includes_no (root leaf:List UInt8)(n i:Int)(A:Option Addr)(c N:Nat)(p:List H32)(w:World)(h:¬(0≤i∧i<n∧n≤65536)):
 Calls Tryz.prog 108 #[Qar root,.int .i64 n,.int .i64 i,Qar leaf,.slice A N c] w fun e w'=>e=.returned (.bool (Qa3 root n i leaf p))∧Below w.heap.size w w':=by
 have HE:Hid (Qa3 root n i leaf p=false):=Lh (by unfold Qa3;rw[decide_eq_false h];rfl);have HB:Hid (Below w.heap.size w ((w.alloc (.cells (root.map Qab).toArray 101)).alloc (.cells (leaf.map Qab).toArray 101))):=Lh ((bR.alloc nL _).alloc (by simp) _);unfold Qar;generalize (root.map Qab).toArray=rs at*;generalize (leaf.map Qab).toArray=ls at*;by_cases h1:i<0
 ·go_enter Tryz.func108,Tryz.ntmps108;go_wp2_with fail;go_ret;exact⟨Qat HE.out.symm,HB.out⟩
 ·by_cases h2:n≤i
  ·go_enter Tryz.func108,Tryz.ntmps108;go_wp2_with fail;go_ret;exact⟨Qat HE.out.symm,HB.out⟩
  ·have h3:65536<n:=by omega
   go_enter Tryz.func108,Tryz.ntmps108;go_wp2_with fail;go_ret;exact⟨Qat HE.out.symm,HB.out⟩
set_option maxRecDepth 100000 in
theorem includes_yes (root leaf:List UInt8)(hr:root.length=32)(hl:leaf.length=32)(n i:Nat)(A:Option Addr)(c N:Nat)(p:List H32)(w:World)(hi:i<n)(hn:n≤65536)(hs:Sl w (fun b=>b<w.heap.size) A c p)(hN:p.length=N)(hN2:N≤9223372036854775807)(hK:KLaid w):
 Calls Tryz.prog 108 #[Qar root,.int .i64 (n:Int),.int .i64 (i:Int),Qar leaf,.slice A N c] w fun e w'=>e=.returned (.bool (QdF (climbP n p leaf n i (N,false)).1 root (climbP n p leaf n i (N,false)).2))∧Below w.heap.size w w':=by
 have HRL:=Lh hr;have HRSZ:=Lh (QaB hr);have HS:=Lh hs;have HK:=Lh hK;have HI:=Lh hi;have HN:=Lh hN;have HLL:=Lh hl;have h1:¬(i:Int)<0:=by omega
 have h2:¬n≤i:=by omega
 have h3:¬(65536:Int)<(n:Int):=by omega
 obtain⟨cv,s2,hcs⟩:∃cv s2,climbP n p leaf n i (N,false)=(cv,s2):=⟨_,_,rfl⟩;have HCV:Hid (cv.length=32):=Lh (by have:=(Qc1 (h32_len hs) hl n n i (N,false) (by simp only;omega)).1;rw[hcs] at this;exact this);have HCC:Hid (climbP n p leaf n i (N,false)=(cv,s2)):=Lh hcs;rw[hcs];clear hcs hs hK hN hr hl;have HB0:Hid (Below w.heap.size w ((w.alloc (.cells (root.map Qab).toArray 101)).alloc (.cells (leaf.map Qab).toArray 101))):=Lh ((bR.alloc nL _).alloc (by simp) _);have HRB0:Hid (ABoxZ ((w.alloc (.cells (root.map Qab).toArray 101)).alloc (.cells (leaf.map Qab).toArray 101)) w.heap.size 101 (root.map Qab)):=Lh (by unfold ABoxZ;rw[Below.heap_alloc _ _ _ (by simp)];exact heap_alloc_new w _);have HLB0:Hid (ABoxZ ((w.alloc (.cells (root.map Qab).toArray 101)).alloc (.cells (leaf.map Qab).toArray 101)) (w.heap.size+1) 101 (leaf.map Qab)):=Lh (Qai (by simp));unfold Qar;go_enter Tryz.func108,Tryz.ntmps108;go_upto_region 3 with(fail);generalize hw1:World.alloc (World.alloc w _) _=w1;have hw2:(w.alloc (.cells (root.map Qab).toArray 101)).alloc (.cells (leaf.map Qab).toArray 101)=w1:=hw1;rw[hw2] at HB0 HRB0 HLB0;clear hw1 hw2;have HTA:=Lh (taker_any w1 A c N);have HS1:=Lh (HS.out.to HB0.out);have HK1:=Lh (HK.out.to HB0.out);have HSZ1:Hid (w.heap.size+1<w1.heap.size):=Lh HLB0.out.lt;go_wp2_with fail;refine HTA.out.mono ?_;rintro e w2 ⟨Lb,Mb,Pb,rfl,ht2⟩;have hba:Below w2.heap.size w2 ((w2.alloc (.cells #[takeV Lb Mb Pb] 216)).alloc (.cells #[QcG (w.heap.size+1) w2.heap.size (w2.heap.size+1)] 219)):=(bR.alloc nL _).alloc (by simp) _;have HB2:=Lh (HB0.out.trans (ht2.b.mono HB0.out.size));have HBB:=Lh (HB2.out.trans (hba.mono HB2.out.size));have HRB:=Lh ((HRB0.out.to ht2.b).to hba);have HTF:Hid (w1.heap.size≤Lb∧w1.heap.size≤Mb):=Lh ⟨ht2.bl,ht2.bm⟩;have HLM:Hid (Lb<w2.heap.size∧Mb<w2.heap.size∧w1.heap.size≤w2.heap.size):=Lh ⟨ht2.l.lt,ht2.m.lt,ht2.bs⟩
 have HCK:Hid (CKZ w1 ((w2.alloc (.cells #[takeV Lb Mb Pb] 216)).alloc (.cells #[QcG (w.heap.size+1) w2.heap.size (w2.heap.size+1)] 219)) Lb Mb Pb (w.heap.size+1) w2.heap.size (w2.heap.size+1) (.slice A N c) leaf (N,false)):=Lh ⟨ht2.to hba,(HLB0.out.to ht2.b).to hba,by unfold ABoxZ;rw[Below.heap_alloc _ _ _ (by simp)];exact heap_alloc_new w2 _,Qai (by simp),by have:=HTF.out;have:=HSZ1.out;rintro(h|h)<;>omega,by have:=HLM.out;rintro(h|h)<;>omega,by have:=HLM.out;rintro(h|h)<;>omega⟩
 have hTF:Hid (∀g,TF Lb Mb g→w.heap.size≤g):=Lh (by have:=HTF.out;have:=HSZ1.out;rintro g (h|h)<;>omega);have hRF:Hid (¬TF Lb Mb w.heap.size):=Lh (by have:=HTF.out;have:=HSZ1.out;rintro(h|h)<;>omega)
 have HCLI:Hid (∀W,CKZ w1 W Lb Mb Pb (w.heap.size+1) w2.heap.size (w2.heap.size+1) (.slice A N c) leaf (N,false)→Calls Tryz.prog 155 #[.int .i64 (n:Int),.int .i64 (i:Int),.pointer (some ⟨w.heap.size+1,0,none⟩),.pointer (some ⟨w2.heap.size,0,none⟩),.pointer (some ⟨w2.heap.size+1,0,none⟩)] W fun e w'=>e=.returned (Qar cv)∧TK w1 w' Lb Mb Pb (.slice A N c) s2∧Out (TF Lb Mb) W w'):=Lh (fun W hW=>by
  have:=climb_any w1 Lb Mb Pb (w.heap.size+1) w2.heap.size (w2.heap.size+1) A c N p leaf HLL.out HK1.out HS1.out HN.out hN2 n n i (N,false) W (by omega) (by omega) hn hi nL hW
  rw[HCC.out] at this;exact this)
 clear ht2 hba;unfold takeV doneV;go_upto_region 6 with(fail);generalize hw5:World.alloc (World.alloc w2 _) _=w6;have hw6:((w2.alloc (.cells #[takeV Lb Mb Pb] 216)).alloc (.cells #[QcG (w.heap.size+1) w2.heap.size (w2.heap.size+1)] 219))=w6:=hw5;rw[hw6] at HBB HRB HCK;clear hw5 hw6 HTA HS1 HSZ1 HB2 HTF HLM HB0 HRB0 HLB0;generalize w2.heap.size+1=Cb at*;generalize w2.heap.size=Tb at*;generalize w.heap.size+1=Lf at*;obtain⟨Rb,hRb⟩:∃R,R=w.heap.size:=⟨_,rfl⟩;rw[←hRb] at HRB hRF ⊢;have HRbe:=Lh hRb;clear hRb;refine Qaj (fun w'=>w'.cell? ⟨Cb,0,none⟩=some (QcG Lf Tb Cb)∧w'.heap[Rb]? =some (.cells (root.map Qab).toArray 101 (0,0))) (fun i=>decide (i<5)) (by kernel_rfl) ?_;have hb0:Below w6.heap.size w6 w6.drew:=bR.drew;have hck0:=Lh (HCK.out.to hb0);have hbb0:=Lh (HBB.out.trans (hb0.mono HBB.out.size));have hR0:=Lh (HRB.out.to hb0);clear hb0;generalize w6.drew=W0 at*;refine tE 0 ⟨some 31,Op.load 219 (.tmp 13),219,_,_,_⟩ ?_ rfl ?zq0 (⟨hck0.out.cb.cell 0 rfl,hR0.out⟩) ?zq1;(case zq0=>intro wS hSw;(try dsimp only at hSw);go_simp;(try with_reducible rfl));(all_goals try go_frame);refine tE 1 ⟨some 32,Op.move (.tmp 1),3,_,_,_⟩ ?_ rfl ?zq2 (⟨hck0.out.cb.cell 0 rfl,hR0.out⟩) ?zq3;(case zq2=>intro wS hSw;(try dsimp only at hSw);go_simp;(try with_reducible rfl));(all_goals try go_frame);refine tE 2 ⟨some 33,Op.move (.tmp 2),3,_,_,_⟩ ?_ rfl ?zq4 (⟨hck0.out.cb.cell 0 rfl,hR0.out⟩) ?zq5;(case zq4=>intro wS hSw;(try dsimp only at hSw);go_simp;(try with_reducible rfl));(all_goals try go_frame);refine tE 4 ⟨some 35,Op.load 101 (.tmp 5),101,_,_,_⟩ ?_ rfl ?zq6 (⟨hck0.out.cb.cell 0 rfl,hR0.out⟩) ?zq7;(case zq6=>intro wS hSw;refine Qa0 101 (.tmp 5) ?_ Rb ?_ 101 (root.map Qab).toArray (0,0) _ hSw.2 Tryz.underlying101 ?_ ?_;rfl;rfl;rfl;(rw[HRSZ.out];kernel_rfl));(all_goals try go_frame);refine tD 3 ⟨some 34,Op.call {callee:=Callee.value (.tmp 31),args:=#[Operand.tmp 32,Operand.tmp 33],argTypes:=#[3,3]},101,_,_,_⟩ rfl fun K hK=>?_
 go_simp;unfold QcG;go_simp;go_at_call 155;refine(HCLI.out W0 hck0.out).mono ?_;rintro e W2 ⟨rfl,ht2,ho2⟩;have hck2:=Lh (hck0.out.out ht2 ho2);have hb2:=Lh (hbb0.out.trans (ho2.below hTF.out hbb0.out.size));have hR2:=Lh (ho2.box hR0.out hRF.out);go_simp;refine hK _ _ (fun _=>?_) ?_
 ·exact⟨hck2.out.cb.cell 0 rfl,hR2.out⟩
 clear hK K;(try go_frame);refine tD 5 ⟨some 36,Op.binOp BinOp.eql 101 (.tmp 34) (.tmp 35) 101,4,_,_,_⟩ rfl fun K hK=>?_
 refine wp_eqlH (.tmp 34) (.tmp 35) rfl cv root ?_ ?_ HCV.out HRL.out ?_
 ·rfl
 ·rfl
 refine hK _ _ (fun h=>absurd h (by decide)) ?_;clear hK K;(try go_frame);generalize hq:decide (cv=root)=q at*;have HQ:=Lh hq;clear hq;cases q with
 |true=>
  have HRES:Hid (QdF cv root s2=decide (s2=(0,false))):=Lh (by unfold QdF;rw[HQ.out];rfl);refine tD 6 ⟨some 37,Op.move (.tmp 36),4,_,_,_⟩ rfl fun K hK=>?_
  go_simp;refine hK _ _ (fun h=>absurd h (by decide)) ?_;clear hK K;(try go_frame);refine tD 7 ⟨some 38,Op.move (.tmp 12),48,_,_,_⟩ rfl fun K hK=>?_
  go_simp;refine hK _ _ (fun h=>absurd h (by decide)) ?_;clear hK K;(try go_frame);refine tD 8 ⟨some 39,Op.call {callee:=Callee.value (.tmp 38),args:=#[],argTypes:=#[]},4,_,_,_⟩ rfl fun K hK=>?_
  go_simp;go_at_call 188;refine(tdone_any w1 W2 Lb Mb Pb _ s2 hck2.out.t).mono ?_;rintro e w9 ⟨rfl,rfl⟩;go_simp;refine hK _ _ (fun h=>absurd h (by decide)) ?_;clear hK K;(try go_frame);refine tD 9 ⟨some 40,Op.pick (.tmp 37) (.tmp 39) (Operand.const (Value.bool false)),4,_,_,_⟩ rfl fun K hK=>?_
  go_simp;refine hK _ _ (fun h=>absurd h (by decide)) ?_;clear hK K;(try go_frame);refine tD 10 ⟨some 10,Op.assign (.tmp 40),4,_,_,_⟩ rfl fun K hK=>?_
  go_simp;refine hK _ _ (fun h=>absurd h (by decide)) ?_;clear hK K;(try go_frame);refine Qae (by kernel_rfl) ?_ _;unfold Exit.then;go_wp2_with fail;go_ret;exact⟨Qat HRES.out.symm,hb2.out⟩
 |false=>
  have HRES:Hid (QdF cv root s2=false):=Lh (by unfold QdF;rw[HQ.out];rfl);refine tD 6 ⟨some 37,Op.move (.tmp 36),4,_,_,_⟩ rfl fun K hK=>?_
  go_simp;refine hK _ _ (fun h=>absurd h (by decide)) ?_;clear hK K;(try go_frame);refine QeQ (i:=7) (oi:=⟨some 38,Op.move (.tmp 12),48,_,_,_⟩) rfl (by kernel_rfl) (by rfl) (fun h=>absurd h (by decide)) ?_;(try go_frame);refine QeQ (i:=8) (oi:=⟨some 39,Op.call {callee:=Callee.value (.tmp 38),args:=#[],argTypes:=#[]},4,_,_,_⟩) rfl (by kernel_rfl) (by rfl) (fun h=>absurd h (by decide)) ?_;(try go_frame);refine tD 9 ⟨some 40,Op.pick (.tmp 37) (.tmp 39) (Operand.const (Value.bool false)),4,_,_,_⟩ rfl fun K hK=>?_
  go_simp;refine hK _ _ (fun h=>absurd h (by decide)) ?_;clear hK K;(try go_frame);refine tD 10 ⟨some 10,Op.assign (.tmp 40),4,_,_,_⟩ rfl fun K hK=>?_
  go_simp;refine hK _ _ (fun h=>absurd h (by decide)) ?_;clear hK K;(try go_frame);refine Qae (by kernel_rfl) ?_ _;unfold Exit.then;go_wp2_with fail;go_ret;exact⟨Qat HRES.out.symm,hb2.out⟩
theorem includes_any (root leaf:List UInt8)(hr:root.length=32)(hl:leaf.length=32)(n i:Int)(A:Option Addr)(c N:Nat)(p:List H32)(w:World)(hs:Sl w (fun b=>b<w.heap.size) A c p)(hN:p.length=N)(hN2:N≤9223372036854775807)(hK:KLaid w):
 Calls Tryz.prog 108 #[Qar root,.int .i64 n,.int .i64 i,Qar leaf,.slice A N c] w fun e w'=>e=.returned (.bool (Qa3 root n i leaf p))∧Below w.heap.size w w':=by
 by_cases h:0≤i∧i<n∧n≤65536
 ·have e:Qa3 root n i leaf p=QdF (climbP n.toNat p leaf n.toNat i.toNat (N,false)).1 root (climbP n.toNat p leaf n.toNat i.toNat (N,false)).2:=by
   unfold Qa3;rw[decide_eq_true h,hN];rfl
  obtain⟨n',rfl⟩:∃k:Nat,n=(k:Int):=⟨n.toNat,by omega⟩;obtain⟨i',rfl⟩:∃k:Nat,i=(k:Int):=⟨i.toNat,by omega⟩;rw[e];exact includes_yes root leaf hr hl n' i' A c N p w (by omega) (by omega) hs hN hN2 hK
 ·exact includes_no root leaf n i A c N p w h
instance:DecidableEq H32:=fun a b=>decidable_of_iff (a.l=b.l) ⟨fun h=>by cases a;cases b;exact congrArg H32.mk h,fun h=>by rw[h]⟩
set_option maxRecDepth 100000 in
theorem QeT (A B:Option Addr)(c d n m:Nat)(l q:List H32)(w:World)(hl:Sl w (fun b=>b<w.heap.size) A c l)(hm:Sl w (fun b=>b<w.heap.size) B d q)(hn:l.length=n)(hmm:q.length=m):
 Calls Tryz.prog 50 #[.slice A n c,.slice B m d] w fun e w'=>e=.returned (.bool (decide (l=q)))∧Below w.heap.size w w':=by
 have hlen:n≤9223372036854775807:=by have:=hl.1;have:=hl.2.1;unfold maxLen at this;omega
 have hlem:m≤9223372036854775807:=by have:=hm.1;have:=hm.2.1;unfold maxLen at this;omega
 have HL:=Lh hl;have HM:=Lh hm;have HN:=Lh (And.intro hn hmm);clear hl hm hn hmm;by_cases hll:n=m
 ·subst hll;have hnn:((n:Int) != (n:Int))=false:=(by simp);go_enter Tryz.func50,Tryz.ntmps50;go_wp2_with fail;go_loopw [5] (fun i wr=>∃k:Nat,k≤n∧i=.int .i64 k∧Hid (l.take k=q.take k)∧Hid (Below w.heap.size w wr)) (fun i _=>n-(intOf i).toNat);(case atStart=>exact⟨0,Nat.zero_le _,rfl,Lh rfl,Lh bR⟩);case round=>
   obtain⟨k,hk,rfl,hi,hb⟩:=hrel;by_cases hlt:k<n
   ·have hkl:k<l.length:=by have:=HN.out;omega
    have hkq:k<q.length:=(by have:=HN.out;omega);obtain⟨b,o,rfl,hbS,hbl,hr1,hl1⟩:=h32_at (HL.out.to hb.out) hkl;obtain⟨b2,o2,rfl,hbS2,hbl2,hr2,hl2⟩:=h32_at (HM.out.to hb.out) hkq;have hkn:(k:Int)<(n:Int):=(by omega);have hk0:(0:Int)≤(k:Int):=(by omega);obtain⟨cond,hcond⟩:∃b,b= !decide (l[k].l=q[k].l):=⟨_,rfl⟩;have HCD:=Lh hcond;have HXY:=Lh (And.intro hl1 hl2);have HEQ:Hid (l[k].l=q[k].l→l[k]=q[k]):=Lh (fun e=>by cases hx:l[k];cases hy:q[k];rw[hx,hy] at e;exact congrArg H32.mk e);have HNE:Hid (l[k]≠q[k]→l≠q):=Lh (fun e=>ne_at hkl hkq e);have HSU:Hid (l[k]=q[k]→l.take (k+1)=q.take (k+1)):=Lh (fun e=>QdH hkl hkq hi.out e);have HEX:Hid (cond=true→l[k]≠q[k]):=Lh (fun e h=>by rw[hcond,h] at e;simp at e);have HEY:Hid (cond=false→l[k]=q[k]):=Lh (fun e=>HEQ.out (by rw[hcond] at e;simpa using e));clear hcond hi HEQ;generalize l[k].l=x at*;generalize q[k].l=y at*;have HLX:Hid ((x.map Qab).length=32∧(y.map Qab).length=32):=Lh ⟨by rw[qM,HXY.out.1],by rw[qM,HXY.out.2]⟩;have HNQ:Hid (∀W,(binOp .neq 101 (.agg (x.map Qab).toArray) (.agg (y.map Qab).toArray)).run Tryz.prog W=.ok (.bool cond) W):=Lh (fun W=>by rw[HCD.out];exact QdP _ _ HXY.out.1 HXY.out.2 W);have hHeld:wr.drew.rangeAt b (o+k*32) (x.map Qab)∧wr.drew.rangeAt b2 (o2+k*32) (y.map Qab):=⟨(World.rangeAt_drew _ _ _ _).2 hr1,(World.rangeAt_drew _ _ _ _).2 hr2⟩;clear hr1 hr2;clear HL HM HN;go_wp2_with fail;refine Qaj (fun w'=>w'.rangeAt b (o+k*32) (x.map Qab)∧w'.rangeAt b2 (o2+k*32) (y.map Qab)) (fun _=>true) (by kernel_rfl) ?_;refine tE 0 ⟨some 17,Op.move (.tmp 0),90,_,_,_⟩ ?_ rfl ?zq0 (hHeld) ?zq1;(case zq0=>intro wS hSw;(try dsimp only at hSw);go_simp;(try with_reducible rfl));(all_goals try go_frame);refine tE 1 ⟨some 18,Op.move (.tmp 5),3,_,_,_⟩ ?_ rfl ?zq2 (hHeld) ?zq3;(case zq2=>intro wS hSw;(try dsimp only at hSw);go_simp;(try with_reducible rfl));(all_goals try go_frame);refine tE 2 ⟨some 19,Op.indexAddr 90 (.tmp 17) (.tmp 18),0,_,_,_⟩ ?_ rfl ?zq4 (hHeld) ?zq5;(case zq4=>intro wS hSw;(try dsimp only at hSw);go_simp;(try with_reducible rfl));(all_goals try go_frame);refine tE 3 ⟨some 20,Op.load 101 (.tmp 19),101,_,_,_⟩ ?_ rfl ?zq6 (hHeld) ?zq7;(case zq6=>intro wS hSw;refine QaV 101 (.tmp 19) ?_ b (o+k*32) ?_ (x.map Qab) _ hSw.1 Tryz.underlying101 ?_ ?_;rfl;rfl;rfl;(rw[HLX.out.1];kernel_rfl));(all_goals try go_frame);refine tE 4 ⟨some 21,Op.move (.tmp 1),90,_,_,_⟩ ?_ rfl ?zq8 (hHeld) ?zq9;(case zq8=>intro wS hSw;(try dsimp only at hSw);go_simp;(try with_reducible rfl));(all_goals try go_frame);refine tE 5 ⟨some 22,Op.move (.tmp 5),3,_,_,_⟩ ?_ rfl ?zq10 (hHeld) ?zq11;(case zq10=>intro wS hSw;(try dsimp only at hSw);go_simp;(try with_reducible rfl));(all_goals try go_frame);refine tE 6 ⟨some 23,Op.indexAddr 90 (.tmp 21) (.tmp 22),0,_,_,_⟩ ?_ rfl ?zq12 (hHeld) ?zq13;(case zq12=>intro wS hSw;(try dsimp only at hSw);go_simp;(try with_reducible rfl));(all_goals try go_frame);refine tE 7 ⟨some 24,Op.load 101 (.tmp 23),101,_,_,_⟩ ?_ rfl ?zq14 (hHeld) ?zq15;(case zq14=>intro wS hSw;refine QaV 101 (.tmp 23) ?_ b2 (o2+k*32) ?_ (y.map Qab) _ hSw.2 Tryz.underlying101 ?_ ?_;rfl;rfl;rfl;(rw[HLX.out.2];kernel_rfl));(all_goals try go_frame);refine tE 8 ⟨some 25,Op.binOp BinOp.neq 101 (.tmp 20) (.tmp 24) 101,4,_,_,_⟩ ?_ rfl ?zq16 (hHeld) ?zq17;(case zq16=>intro wS hSw;refine exec_neq 101 101 (.tmp 20) (.tmp 24) ?_ (x.map Qab).toArray (y.map Qab).toArray ?_ ?_ guard_h cond (HNQ.out wS);rfl;rfl;rfl);(all_goals try go_frame);refine Qae (by kernel_rfl) ?_ _;unfold Exit.then;cases cond with
    |false=>
     go_wp2_with fail;go_roundw;(case rel=>exact⟨k+1,by omega,by go_num,Lh (HSU.out (HEY.out (by simp))),Lh hb.out.drew⟩);case measure=>simp[intOf];omega
    |true=>
     go_wp2_with fail;go_ret;exact⟨Qat (decide_eq_false (HNE.out (HEX.out (by simp)))).symm,hb.out.drew⟩
   ·go_wp2_with fail;go_ret;exact⟨Qat (decide_eq_true (eq_all (by have:=HN.out;omega) (by have:=HN.out;omega) hi.out)).symm,hb.out⟩
 ·have hnn:((n:Int) != (m:Int))=true:=by simp;omega
  have HNE:Hid (l≠q):=Lh (fun e=>hll (by have:=HN.out;rw[e] at this;omega));clear hll;go_enter Tryz.func50,Tryz.ntmps50;go_wp2;go_ret;exact⟨Qat (decide_eq_false HNE.out).symm,Below.refl _ _⟩
theorem same_stringsZ (A B:Option Addr)(c d:Nat)(l m:List ByteArray)(w:World)(hl:Sl w (fun b=>b<w.heap.size) A c l)(hm:Sl w (fun b=>b<w.heap.size) B d m):
 Calls Tryz.prog 150 #[.slice A l.length c,.slice B m.length d] w fun e w'=>e=.returned (.bool (decide (l=m)))∧Below w.heap.size w w':=by
 have hlen:l.length≤9223372036854775807:=by have:=hl.1;have:=hl.2.1;unfold maxLen at this;omega
 have hlem:m.length≤9223372036854775807:=by have:=hm.1;have:=hm.2.1;unfold maxLen at this;omega
 by_cases hll:l.length=m.length
 ·have hnn:((l.length:Int) != (m.length:Int))=false:=by rw[hll];simp
  have Hll:=Lh hll;go_enter Tryz.func150,Tryz.ntmps150;clear hll;go_wp2;go_loopw [5] (fun i wr=>∃k:Nat,k≤l.length∧i=.int .i64 k∧Hid (l.take k=m.take k)∧Below w.heap.size w wr) (fun i _=>l.length-(intOf i).toNat);(case atStart=>exact⟨0,Nat.zero_le _,rfl,rfl,Below.refl _ _⟩);case round=>
   obtain⟨k,hk,rfl,hi,hb⟩:=hrel;by_cases hlt:k<l.length
   ·have hltm:k<m.length:=by have:=Hll.out;omega
    obtain⟨b,o,rfl,hbS,hbl,c0⟩:=str_atZ (hl.keep (Kept.all hb) hb.size) hlt;obtain⟨b2,o2,rfl,hbS2,hbl2,d0⟩:=str_atZ (hm.keep (Kept.all hb) hb.size) hltm;have hkl:(k:Int)<(l.length:Int):=(by omega);have hkm:(k:Int)<(m.length:Int):=(by omega);have hk0:(0:Int)≤(k:Int):=(by omega);by_cases heq:l[k]=m[k]
    ·have hB:(!l[k].toList==m[k].toList)=false:=by rw[tl_eqZ heq];rfl
     have Heq:=Lh heq;clear heq;go_wp2_with fail;go_quiet (fail);go_wp2_with fail;go_roundw;(case rel=>exact⟨k+1,by omega,by go_num,QdH hlt hltm hi.out Heq.out,Below.dn hb _⟩);case measure=>simp[intOf];omega
    ·have hB:(!l[k].toList==m[k].toList)=true:=by rw[tl_neZ heq];rfl
     have Heq:=Lh heq;clear heq;go_wp2_with fail;go_quiet (fail);go_wp2_with fail;go_ret;exact⟨Qat (decide_eq_false (ne_at hlt hltm Heq.out)).symm,Below.dn hb _⟩
   ·go_wp2_with fail;go_ret;exact⟨Qat (decide_eq_true (eq_all (by omega) (by have:=Hll.out;omega) hi.out)).symm,hb⟩
 ·have hnn:((l.length:Int) != (m.length:Int))=true:=by simp;omega
  have Hll:=Lh hll;clear hll;go_enter Tryz.func150,Tryz.ntmps150;go_wp2;go_ret;exact⟨Qat (decide_eq_false (fun e=>Hll.out (by rw[e]))).symm,Below.refl _ _⟩
end Go.Proofs.YtegaapiocihcpaaGreatDoor
