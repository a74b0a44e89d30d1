/- Texts of SpC. -/
import Derived.Test.YtegaapiocihcpaaDoorSDa3
import Derived.OwnWalk
import Derived.Laws.CopyOwn
import Derived.BigQuiet
set_option maxHeartbeats 16000000
namespace Go.Proofs.YtegaapiocihcpaaDoor
open Go.RowKit
def gapF (s k:Int)(i:Nat):Int:=6+s.tdiv k+if(i:Int)<s.tmod k then 1 else 0
theorem gapsP_eq {ws:List Int}{m:Int}{k:Nat}(h:ws.length=k+1)(hk:1≤k):Qdl ws m false=(List.range k).map (gapF (QaP ws m) (k:Int)):=by
 unfold Qdl;rw[if_neg (by omega),if_neg (by simp)];have e:ws.length-1=k:=by omega
 rw[e];rfl
theorem gap_row (f:Nat→Int)(k j:Nat)(h:j<k):(((List.range j).map f)++List.replicate (k-j) 6).set j (f j)=((List.range (j+1)).map f)++List.replicate (k-(j+1)) 6:=by
 have e:k-j=(k-(j+1))+1:=by omega
 rw[List.set_append_right _ _ (by simp),e,List.replicate_succ,List.range_succ,List.map_append,List.append_assoc];simp
theorem gap_at (f:Nat→Int)(k j:Nat)(h:j<k):(((List.range j).map f)++List.replicate (k-j) 6)[j]? =some 6:=by
 have e:j-((List.range j).map f).length=0:=by simp
 rw[List.getElem?_append_right (by simp),e,List.getElem?_replicate,if_pos (by omega)]
set_option maxRecDepth 100000 in
theorem gaps_any (A:Option Addr)(c:Nat)(ws:List Int)(m:Int)(last:Bool)(w:World)(hs:Sl w (fun b=>b<w.heap.size) A c ws)(hr:Reg ws m):
 Calls Tryd.prog 81 #[.slice A ws.length c,.int .i64 m,.bool last] w fun e w'=>∃v,e=.returned v∧Own w' w.heap.size 3 v (Qdl ws m last)∧Below w.heap.size w w':=by
 have h3:ws.length≤500:=hr.n;by_cases hk:ws.length≤1
 ·have HG:Hid (Qdl ws m last=[]):=Lh (by unfold Qdl;rw[if_pos hk]);have hk2:(ws.length:Int)-1<1:=(by omega);have hk3:(0:Int)≤(ws.length:Int):=(by omega);clear hs hr hk;go_enter Tryd.func81,Tryd.ntmps81;go_wp2_with fail;go_ret;exact⟨_,rfl,by rw[HG.out];exact Own.nil _ _ _,Below.refl _ _⟩
 ·obtain⟨k,hkk⟩:∃k,ws.length=k+1:=⟨ws.length-1,by omega⟩;have hk1:1≤k:=(by omega);have hk5:k≤500:=(by omega);have hki:(ws.length:Int)-1=(k:Int):=(by omega);have hki1:¬(k:Int)<1:=(by omega);have HKK:=Lh hkk;have HR:=Lh hr;have HS:=Lh hs;have HSLK:=Lh (fun(W:World) (hW:Below w.heap.size w W)=>slack_any A c ws m W (hs.to hW) hr);have hsb:=QcN ws hr.w (m+6);have hs1:QaP ws m≤2006:=(by have:=hr.hi;unfold QaP;omega);have hs2: -300000≤QaP ws m:=(by have:=hr.lo;unfold QaP;omega);have HGE:=Lh (gapsP_eq (m:=m) hkk hk1);have HW1:Hid (Below w.heap.size w (w.alloc (.cells #[.int .i64 6] 3))):=Lh (bR.alloc nL _);have HRP:Hid (Calls Tryd.prog 89 #[.slice (some ⟨w.heap.size,0,none⟩) 1 1,.int .i64 (k:Int)] (w.alloc (.cells #[.int .i64 6] 3)) fun e w'=>∃g,e=.returned (.slice (some ⟨g,0,none⟩) k k)∧(w.alloc (.cells #[.int .i64 6] 3)).heap.size≤g∧IRow w' g 3 (List.replicate k 6)∧Below (w.alloc (.cells #[.int .i64 6] 3)).heap.size (w.alloc (.cells #[.int .i64 6] 3)) w'):=Lh (repeat_any w.heap.size 0 1 6 k hk1 hk5 (by unfold I64;omega) _ (cell_of_row _ _ 0 _ _ _ (heap_alloc_new w (.cells #[.int .i64 6] 3))));clear hs hr hk hkk hsb;generalize QaP ws m=s at*;go_enter Tryd.func81,Tryd.ntmps81;go_wp2_with fail;refine HRP.out.mono ?_;rintro e w1 ⟨g,rfl,hg1,hg2,hb1⟩;have HGB:Hid (w.heap.size≤g):=Lh (by have:=HW1.out.size;omega);have HB1:=Lh (HW1.out.trans (hb1.mono HW1.out.size));have HI1:=Lh hg2;clear hg1 hg2 hb1 HRP HW1;cases last
  ·go_wp2_with fail;refine(HSLK.out w1 HB1.out).mono ?_;rintro e w2 ⟨rfl,rfl⟩;go_wp2_with fail;have HGE2:=Lh HGE.out;obtain⟨q,hq⟩:∃q,s.tdiv (k:Int)=q:=⟨_,rfl⟩;obtain⟨r,hr⟩:∃r,s.tmod (k:Int)=r:=⟨_,rfl⟩;have hqb: -300000≤q∧q≤300000:=by
    have h1:(s.tdiv (k:Int)).natAbs=s.natAbs/(k:Int).natAbs:=Int.natAbs_tdiv s k;have h2:=Nat.div_le_self s.natAbs (k:Int).natAbs;rw[hq] at h1;omega
   obtain⟨hq1,hq2⟩:=hqb;have HF:Hid (∀j:Nat,gapF s (k:Int) j=6+q+if(j:Int)<r then 1 else 0):=Lh (fun j=>by unfold gapF;rw[hq,hr]);have hk0:¬(k:Int)=0:=(by omega);have hk00:((k:Int)==0)=false:=(by rw[beq_eq_false_iff_ne];exact hk0);have hwq:IntKind.i64.wrap (s.tdiv (k:Int))=q:=(by rw[hq];exact IntWalk.i64_in _ (by omega));have hw6:IntKind.i64.wrap (6+q)=6+q:=IntWalk.i64_in _ (by omega);have HI2:Hid (IRow w1 g 3 ((List.range 0).map (gapF s (k:Int))++List.replicate (k-0) 6)):=Lh (by simpa using HI1.out);clear HGE HI1 HSLK;go_loopw [26] (fun v wr=>∃j:Nat,j≤k∧v=.int .i64 (j:Int)∧Hid (IRow wr g 3 ((List.range j).map (gapF s (k:Int))++List.replicate (k-j) 6))∧Hid (Below w.heap.size w wr)) (fun v _=>k-(intOf v).toNat);(case atStart=>exact⟨0,Nat.zero_le _,rfl,HI2,HB1⟩);case round=>
    clear HI2 HB1;obtain⟨j,hj,rfl,HI,HB⟩:=hrel;by_cases hlt:j<k
    ·have hjk:(j:Int)<(k:Int):=by omega
     have hj0:(0:Int)≤(j:Int):=(by omega);have HAT:=Lh (gap_at (gapF s (k:Int)) k j hlt);have HST:=Lh (gap_row (gapF s (k:Int)) k j hlt);go_upto_region 11 with(fail);refine Qaq [] (fun i=>SP.any) 9 (by kernel_rfl) (by kernel_rfl) ?_;intro T _ g1 hg hgm;have c0:∀d,(g1 d).cell? ⟨g,j,none⟩=some (.int .i64 6):=fun d=>(HI.out.to (hg d)).cell j HAT.out
     (repeat(refine QaB (by rfl) fun Kq hq=>?_;go_big_quiet_step (fail);refine wpQuiet_nil (hq _ ?_);clear hq Kq));refine QcQ 1 (by rfl) (by rfl) (fun d hG=>?_);have HId:=Lh (HI.out.to (hg d));have HBd:Hid (Below w.heap.size w (g1 d)):=Lh (HB.out.trans ((hg d).mono HB.out.size));have c1:=c0 d;have f1:=HId.out.fz j;clear c0 hG hg hgm HI HB;generalize g1 d=wx at*;clear g1;refine QbJ (i:=9) (oi:=_) rfl (by kernel_rfl) (by rfl) (fun K hK=>?_);go_simp;refine hK _ _ ?_;clear hK K;(try go_frame);refine wpAny_done (by kernel_rfl) ?_ _;(try unfold Exit.then);have HI3:Hid (IRow (wx.setCell ⟨g,j,none⟩ (.int .i64 (6+q))) g 3 ((((List.range j).map (gapF s (k:Int)))++List.replicate (k-j) 6).set j (6+q))):=Lh (HId.out.set j (6+q));have HB3:Hid (Below w.heap.size w (wx.setCell ⟨g,j,none⟩ (.int .i64 (6+q)))):=Lh (HBd.out.setCell (p:=⟨g,j,none⟩) HGB.out _);clear c1 f1 HId HBd;generalize wx.setCell ⟨g,j,none⟩ (.int .i64 (6+q))=wy at*;by_cases hjr:(j:Int)<r
     ·have HN:Hid (((((List.range j).map (gapF s (k:Int)))++List.replicate (k-j) 6).set j (6+q)).set j (6+q+1)=((List.range (j+1)).map (gapF s (k:Int)))++List.replicate (k-(j+1)) 6):=Lh (by
       rw[List.set_set,←HST.out,HF.out,if_pos hjr])
      have c2:wy.cell? ⟨g,j,none⟩=some (.int .i64 (6+q)):=HI3.out.cell j (by rw[List.getElem?_set_self];simp;omega);have f2:=HI3.out.fz j;have HI4:=Lh (HI3.out.set j (6+q+1));have HB4:Hid (Below w.heap.size w (wy.setCell ⟨g,j,none⟩ (.int .i64 (6+q+1)))):=Lh (HB3.out.setCell (p:=⟨g,j,none⟩) HGB.out _);go_wp2_with fail;go_roundw;(case rel=>exact⟨j+1,by omega,by go_num,Lh (by rw[←HN.out];exact HI4.out),HB4⟩);case measure=>(first|(simp[intOf];done)|(simp[intOf];omega))
     ·have HN:Hid ((((List.range j).map (gapF s (k:Int)))++List.replicate (k-j) 6).set j (6+q)=((List.range (j+1)).map (gapF s (k:Int)))++List.replicate (k-(j+1)) 6):=Lh (by
       rw[←HST.out,HF.out,if_neg hjr,Int.add_zero])
      go_wp2_with fail;go_roundw;(case rel=>exact⟨j+1,by omega,by go_num,Lh (by rw[←HN.out];exact HI3.out),HB3⟩);case measure=>(first|(simp[intOf];done)|(simp[intOf];omega))
    ·obtain rfl:j=k:=by omega
     go_wp2_with fail;go_ret;have hrow:IRow wr g 3 ((List.range j).map (gapF s (j:Int))):=by have:=HI.out;rwa [Nat.sub_self,List.replicate_zero,List.append_nil] at this
     have hown:=hrow.own HGB.out (fun y hy=>by
      obtain⟨i,_,rfl⟩:=List.mem_map.1 hy
      rw[HF.out];unfold I64;split<;>omega) (by simp;unfold maxLen;omega)
     rw[qM,List.length_range] at hown;exact⟨_,rfl,by rw[HGE2.out];exact hown,HB.out⟩
  ·have HGT:Hid (Qdl ws m true=List.replicate k 6):=Lh (by
    have h:=HKK.out
    unfold Qdl;rw[if_neg (by omega),if_pos rfl];congr 1;omega)
   go_wp2_with fail;go_ret;have hown:=HI1.out.own HGB.out (fun y hy=>by rw[List.eq_of_mem_replicate hy];unfold I64;omega) (by rw[List.length_replicate];unfold maxLen;omega);rw[List.length_replicate] at hown;exact⟨_,rfl,by rw[HGT.out];exact hown,HB1.out⟩
structure Bd (α:Type)(B:Nat) where
 x:α
instance instRepBd (α:Type)[Rep α](B:Nat):Rep (Bd α B) where
 size:=Rep.size α
 R w S cs y:=Rep.R w (fun b=>S b∧B≤b) cs y.x
 len h:=Rep.len (α:=α) h
 one h:=Rep.one (α:=α) h
 keep h hk:=Rep.keep (α:=α) h (fun i hi hlt=>hk i hi.1 hlt)
 mono h hS:=Rep.mono (α:=α) h (fun i hi hlt=>⟨hS i hi.1 hlt,hi.2⟩)
section
variable {α:Type} [Rep α] {w:World} {base B n c:Nat} {e:TypeId} {v:Value} {A:Option Addr}
theorem bd_sl {l:List (Bd α B)}(h:Own w base e v l)(hB:B≤base):∃A c,v=.slice A (l.map Bd.x).length c∧Sl w (fun b=>b<w.heap.size∧B≤b) A c (l.map Bd.x):=by
 obtain⟨A,c,rfl,hs⟩:=h.sl;refine⟨A,c,by rw[qM],by rw[qM];exact hs.1,hs.2.1,fun h0=>?_⟩;rw[qM] at h0;obtain⟨b,o,rfl,hb,hlt,hx⟩:=hs.2.2 h0;refine⟨b,o,rfl,⟨hb,Nat.le_trans hB (h.lt b rfl).1⟩,hlt,fun i hi=>?_⟩;rw[qM] at hi;obtain⟨es,hr,hc⟩:=hx i hi;rw[List.getElem_map];exact⟨es,hr,hc⟩
end
section
variable {α:Type} [Rep α]
theorem Qci (z:Array Value)(n k:Nat):(madeCells z n).toList[k]? =if k<n then some (z[k%z.size]!) else none:=by
 unfold madeCells;by_cases h:k<n
 ·simp[h]
 ·simp[h]
theorem own_made (w:World){base n:Nat}{e:TypeId}{z:Array Value}{x:α}(hB:base≤w.heap.size)(hn:n≤maxLen)(hz:z.size=Rep.size α)(h0:0<Rep.size α)(h1:∀u∈z.toList,u.oneCell'=true) (hr:∀(W:World) (S:Nat→Prop),Rep.R W S z.toList x):Own (w.alloc (.cells (madeCells z (n*Rep.size α)) e)) base e (.slice (some ⟨w.heap.size,0,none⟩) n n) (List.replicate n x):=by
 have hsz:(madeCells z (n*Rep.size α)).size=n*Rep.size α:=size_madeCells _ _;have hlen:(madeCells z (n*Rep.size α)).toList.length=n*Rep.size α:=by rw[Array.length_toList,hsz]
 refine⟨(madeCells z (n*Rep.size α)).toList,⟨by rw[List.length_replicate];exact hlen,.inr ⟨w.heap.size,n,madeCells z (n*Rep.size α),by rw[List.length_replicate],hB,heap_alloc_new w _,by rw[List.length_replicate];exact Nat.le_refl _,hn,hsz,by rw[List.length_replicate];exact List.take_of_length_le (by omega)⟩⟩,?_,fun i hi=>?_⟩
 ·intro u hu;obtain⟨k,hk⟩:=List.getElem?_of_mem hu;rw[Qci z _ k] at hk;split at hk
  ·have hm:k%z.size<z.size:=Nat.mod_lt _ (by omega);have:u=z[k%z.size]:=by
    rw[getElem!_pos z _ hm] at hk;exact(Option.some.inj hk).symm
   rw[this];exact h1 _ (by simp)
  ·cases hk
 ·rw[List.length_replicate] at hi;rw[List.getElem_replicate];have ht:(((madeCells z (n*Rep.size α)).toList.drop (i*Rep.size α)).take (Rep.size α))=z.toList:=by
   apply List.ext_getElem?;intro k;rw[List.getElem?_take,List.getElem?_drop,Qci z _ _];by_cases hk:k<Rep.size α
   ·have h2:(i+1)*Rep.size α≤n*Rep.size α:=Nat.mul_le_mul_right _ hi;rw[Nat.add_mul,Nat.one_mul] at h2;have hmod:(i*Rep.size α+k)%z.size=k:=by
     rw[hz,Nat.add_comm,Nat.add_mul_mod_self_right];exact Nat.mod_eq_of_lt hk
    rw[if_pos hk,if_pos (by omega),hmod,getElem!_pos z k (by omega)];first|(simp;done)|(simp;omega)
   ·rw[if_neg hk,List.getElem?_eq_none (by rw[Array.length_toList];omega)]
  rw[ht];exact hr _ _
end
theorem Own.slv {α:Type}[Rep α]{w:World}{base n:Nat}{e:TypeId}{A:Option Addr}{c:Nat}{l:List α}(h:Own w base e (.slice A n c) l)(hn:n=l.length):Sl w (fun b=>b<w.heap.size) A c l:=by
 subst hn;obtain⟨A',c',e',hs⟩:=h.sl;cases e';exact hs
def endsOk:Nat→Nat→List Nat→Prop
 |_,_,[]=>True
 |fr,n,e::es=>fr<e∧e≤n∧endsOk e n es
theorem chainE_ok (es:List Nat)(n:Nat)(he:∀i,i<n→i<es.getD i 0∧es.getD i 0≤n):∀f i,i≤n→endsOk i n (chainE es n f i)
 |0,_,_=>trivial
 |f+1,i,hi=>by
  rw[chainE];split
  ·obtain⟨h1,h2⟩:=he i (by assumption);exact⟨h1,h2,chainE_ok es n he f _ h2⟩
  ·trivial
theorem endsP_he {ws:List Int}{m:Int}(hr:Reg ws m):∀i,i<ws.length→i<((bestL ws m ws.length).map (·.2)).getD i 0∧((bestL ws m ws.length).map (·.2)).getD i 0≤ws.length:=fun i hi=>by
 have e:((bestL ws m ws.length).map (·.2)).getD i 0=(bestAt ws m i).2:=by
  unfold bestAt;rw[List.getD_eq_getElem?_getD,List.getD_eq_getElem?_getD,List.getElem?_map,qG (by rw[QaZ];omega)];rfl
 rw[e];exact bestAt_end hr i hi
theorem endsP_ok {ws:List Int}{m:Int}(hr:Reg ws m):endsOk 0 ws.length (endsP ws m):=chainE_ok _ _ (endsP_he hr) _ _ (Nat.zero_le _)
theorem endsP_len {ws:List Int}{m:Int}(hr:Reg ws m):(endsP ws m).length≤ws.length:=(Qcl _ _ (endsP_he hr) ws.length 0 (by omega) (Nat.zero_le _)).2.2.2.2
theorem Reg.cut {ws:List Int}{m:Int}(hr:Reg ws m)(i j:Nat):Reg (Qdm ws i j) m:=
 ⟨by have:=hr.n;unfold Qdm;simp;omega,hr.lo,hr.hi,fun x hx=>hr.w x (by unfold Qdm at hx;exact List.mem_of_mem_take (List.mem_of_mem_drop hx))⟩
instance:Flat Int:=⟨fun h=>h⟩
structure Ap (base O:Nat)(w w':World):Prop where
 os:w'.os=w.os
 tape:w'.tape=w.tape
 output:w'.output=w.output
 size:w.heap.size≤w'.heap.size
 block:∀k,k<base→k≠O→w'.heap[k]? =w.heap[k]?
theorem Ap.refl (base O:Nat)(w:World):Ap base O w w:=⟨rfl,rfl,rfl,Nat.le_refl _,fun _ _ _=>rfl⟩
theorem Ap.trans {base O:Nat}{a b c:World}(h:Ap base O a b)(k:Ap base O b c):Ap base O a c:=⟨k.os.trans h.os,k.tape.trans h.tape,k.output.trans h.output,Nat.le_trans h.size k.size,fun i hi ho=>(k.block i hi ho).trans (h.block i hi ho)⟩
theorem Ap.of {base O:Nat}{a b:World}(h:Below base a b):Ap base O a b:=⟨h.os,h.tape,h.output,h.size,fun i hi _=>h.block i hi⟩
theorem Ap.below {base O B:Nat}{a b:World}(h:Ap base O a b)(hB:B≤O)(hb:O≤base):Below B a b:=⟨h.os,h.tape,h.output,h.size,fun i hi=>h.block i (by omega) (by omega)⟩
structure LBx (w:World)(O base:Nat)(t:TypeId)(c0 c1 c2 v:Value)(N:List Int):Prop where
 o:ABox w O t [c0,c1,c2,v]
 n:Own w base 3 v N
 ob:O<base
 sz:base≤w.heap.size
theorem LBx.below {w w':World}{O base:Nat}{t:TypeId}{c0 c1 c2 v:Value}{N:List Int}(h:LBx w O base t c0 c1 c2 v N)(hb:Below w.heap.size w w'):LBx w' O base t c0 c1 c2 v N:=
 ⟨h.o.to hb,h.n.below hb,h.ob,Nat.le_trans h.sz hb.size⟩
theorem LBx.push {w w5:World}{O base:Nat}{t:TypeId}{c0 c1 c2 v v5:Value}{N N5:List Int}(h:LBx w O base t c0 c1 c2 v N)(hown:Own w5 base 3 v5 N5)(hg:w.grownBy w5 v.ownBlock):
 ABox w5 O t [c0,c1,c2,v]∧LBx (w5.setCell ⟨O,3,none⟩ v5) O base t c0 c1 c2 v5 N5∧Ap base O w (w5.setCell ⟨O,3,none⟩ v5):=by
 have hO:=h.ob;have hb:Below base w w5:=(Below.refl base w).grown hg h.sz (fun k hk=>(h.n.lt k hk).1);have hbx:ABox w5 O t [c0,c1,c2,v]:=(hb.block O hO).trans h.o;refine⟨hbx,⟨hbx.set 3 v5,hown.at_blocks (fun g _ e=>Qad _ _ _ _ (fun e2=>?_)),h.ob,?_⟩,?_⟩
 ·have:=(hown.lt g e).1;omega
 ·have:=h.sz;have:=hb.size;simp;omega
 ·exact⟨hb.os,hb.tape,hb.output,by have:=hb.size;simpa using this,fun k hk hne=>(Qad _ _ _ _ hne).trans (hb.block k hk)⟩
theorem notesP_step (l:List Word)(k:Nat)(x:Word)(h:l[k]? =some x):Qaw (l.take (k+1))=if x.n≠0 then Qaw (l.take k)++[x.n-1] else Qaw (l.take k):=by
 have hk:=(List.getElem?_eq_some_iff.1 h).1;have e:l[k]=x:=(List.getElem?_eq_some_iff.1 h).2;unfold Qaw;rw[qT hk,e,List.filter_append,List.map_append];by_cases hx:x.n=0
 ·simp[hx]
 ·simp[hx]
theorem cutL_len {α:Type}(l:List α){i j:Nat}(h:i≤j)(hj:j≤l.length):(Qdm l i j).length=j-i:=by unfold Qdm;simp;omega
theorem notesP_len (l:List Word):(Qaw l).length≤l.length:=by unfold Qaw;rw[qM];exact List.length_filter_le _ _
theorem Own.sl_at {α:Type}[Rep α][Flat α]{w:World}{base n:Nat}{e:TypeId}{A:Option Addr}{c:Nat}{l:List α}(h:Own w base e (.slice A n c) l)(hn:n=l.length):Sl w (fun b=>base≤b∧b<w.heap.size) A c l:=by
 have hs:=h.slv hn;refine⟨hs.1,hs.2.1,fun h0=>?_⟩;obtain⟨b,o,rfl,hb,hlt,hx⟩:=hs.2.2 h0;refine⟨b,o,rfl,⟨(h.lt b rfl).1,hlt⟩,hlt,fun i hi=>?_⟩;obtain⟨es,hr,hc⟩:=hx i hi;exact⟨es,Flat.flat hr,hc⟩
theorem QcT {w:World}{base n c:Nat}{A:Option Addr}{e:TypeId}{l:List Int}{S:Nat→Prop}(h:Own w base e (.slice A n c) l)(hn:n=l.length)(hS:∀b,base≤b→S b):Rep.R w S [.slice A n c] l:=by
 subst hn;exact⟨A,c,rfl,(h.sl_at rfl).mono (fun i hi _=>hS i hi.1),by have h1:=h.form;obtain⟨_,_,_,_,h2,h3⟩:=h1;unfold maxLen at h3;omega⟩
theorem lines_set (done:List LineP)(r:Nat)(x:LineP){B k:Nat}(hk:done.length=k):((done++List.replicate (r+1) (⟨0,0,[],[]⟩:LineP)).map (Bd.mk:LineP→Bd LineP B)).set k ⟨x⟩=(((done++[x])++List.replicate r (⟨0,0,[],[]⟩:LineP)).map (Bd.mk:LineP→Bd LineP B)):=by
 subst hk;rw[←List.map_set,List.set_append_right _ _ nL,Nat.sub_self,List.replicate_succ,List.append_assoc];rfl
theorem Qcn:(Tryd.prog.info? 49).map (fun i=>(i.zero,i.size,i.bytes))=some (some (.agg #[.int .i64 0,.int .i64 0,.slice none 0 0,.slice none 0 0]),4,64):=by kernel_rfl
theorem wid_row (l:List Word)(j:Nat)(h:j<l.length):(((Qab l).take j)++List.replicate (l.length-j) 0).set j (QaV l[j].s)=((Qab l).take (j+1))++List.replicate (l.length-(j+1)) 0:=by
 have hl:((Qab l).take j).length=j:=by unfold Qab;simp;omega
 have e:l.length-j=(l.length-(j+1))+1:=by omega
 have hw:(Qab l).take (j+1)=(Qab l).take j++[QaV l[j].s]:=by
  unfold Qab;rw[qT (by simpa using h),List.getElem_map]
 rw[List.set_append_right _ _ (by omega),hl,Nat.sub_self,e,List.replicate_succ,hw,List.append_assoc];rfl
theorem wid_at (l:List Word)(j:Nat)(h:j<l.length):(((Qab l).take j)++List.replicate (l.length-j) 0)[j]? =some 0:=by
 have hl:((Qab l).take j).length=j:=by unfold Qab;simp;omega
 rw[List.getElem?_append_right (by omega),hl,Nat.sub_self,List.getElem?_replicate,if_pos (by omega)]
set_option maxRecDepth 100000 in
theorem set_any (A:Option Addr)(c:Nat)(l:List Word)(first m:Int)(w:World)(hs:Sl w (fun b=>b<w.heap.size) A c l)(hT:Laid w)(hr:Reg (Qab l) m)(hf0:0≤first)(hf1:first≤1000000)(hno:∀x∈l,0≤x.n∧x.n≤1000000):
 Calls Tryd.prog 65 #[.slice A l.length c,.int .i64 first,.int .i64 m] w fun e w'=>∃v,e=.returned v∧Own w' w.heap.size 49 v ((setP l first m).map (Bd.mk:LineP→Bd LineP w.heap.size))∧Below w.heap.size w w':=by
 have hwl:(Qab l).length=l.length:=by unfold Qab;rw[qM]
 have h3:l.length≤500:=by have:=hr.n;omega
 have HS:=Lh hs;have HT:=Lh hT;have HR:=Lh hr;have HNO:=Lh hno;have HWL:=Lh hwl;clear hs hT hr hno hwl;go_enter Tryd.func65,Tryd.ntmps65;have HR0:Hid (IRow (w.alloc (.cells (madeCells #[Value.int .i64 0] l.length) 3)) w.heap.size 3 (((Qab l).take 0)++List.replicate (l.length-0) 0)):=Lh (Qa9 w l.length _);have HB0:Hid (Below w.heap.size w (w.alloc (.cells (madeCells #[Value.int .i64 0] l.length) 3))):=Lh (bR.alloc nL _)
 go_wp2_with (first|(refine Qby rfl 22 (.tmp 20) (.tmp 20) rfl 3 (.int .i64 0) 1 8 Tryd.underlying22 QaY l.length rfl rfl (by omega) (by omega) ?_)|fail)
 go_loopw [24] (fun v wr=>∃j:Nat,j≤l.length∧v=.int .i64 (j:Int)∧Hid (IRow wr w.heap.size 3 (((Qab l).take j)++List.replicate (l.length-j) 0))∧Hid (Below w.heap.size w wr)) (fun v _=>l.length-(intOf v).toNat);(case atStart=>exact⟨0,Nat.zero_le _,rfl,HR0,HB0⟩);case round=>
  clear HR0 HB0;obtain⟨j,hj,rfl,HI,HB⟩:=hrel;by_cases hlt:j<l.length
  ·have hjk:(j:Int)<(l.length:Int):=by omega
   have hj0:(0:Int)≤(j:Int):=(by omega);obtain⟨b,o,rfl,-,hbl,-,e0,e1,e2,e3⟩:=Qdw (HS.out.to HB.out) hlt;have HWA:=Lh (wid_at l j hlt);have HWR:=Lh (wid_row l j hlt);obtain⟨x,hx⟩:∃x,l[j]=x:=⟨_,rfl⟩;rw[hx] at e0 e1 e2 e3 HWR;clear hx hbl;have hba:Below wr.heap.size wr (wr.alloc (.cells #[.string x.s,.string x.key,.int .i64 x.t,.int .i64 x.n] 117)):=bR.alloc nL _;have HI1:=Lh (HI.out.to hba);have HB1:=Lh (HB.out.trans (hba.mono HB.out.size));have HWW:=Lh (width_any x.s _ (HT.out.to HB1.out));have c1:=HI1.out.cell j HWA.out;have f1:=HI1.out.fz j;have HI2:=Lh (HI1.out.set j (QaV x.s));have HB2:Hid (Below w.heap.size w ((wr.alloc (.cells #[.string x.s,.string x.key,.int .i64 x.t,.int .i64 x.n] 117)).setCell ⟨w.heap.size,j,none⟩ (.int .i64 (QaV x.s)))):=Lh (HB1.out.setCell (p:=⟨w.heap.size,j,none⟩) nL _);rw[HWR.out] at HI2;clear hba HI HB HI1 HB1 HWA HWR;go_wp2_with (first|(go_at_call 79;refine HWW.out.mono ?_;rintro e w' ⟨rfl,rfl⟩)|fail);go_roundw;(case rel=>exact⟨j+1,by omega,by go_num,HI2,HB2⟩);case measure=>(first|(simp[intOf];done)|(simp[intOf];omega))
  ·have HIW:Hid (IRow wr w.heap.size 3 (Qab l)):=Lh (by
    have h:=HI.out
    have hj2:j=l.length:=(by omega)
    rw[hj2,Nat.sub_self,List.replicate_zero,List.append_nil,List.take_of_length_le (by have:=HWL.out;omega)] at h;exact h)
   have HOW:Hid (Own wr w.heap.size 3 (.slice (some ⟨w.heap.size,0,none⟩) l.length l.length) (Qab l)):=Lh (by
    have h:=HIW.out.own nL (fun y hy=>by have:=HR.out.w y hy;unfold I64;omega) (by have:=HWL.out;unfold maxLen;omega)
    rwa [HWL.out] at h)
   have HSW:Hid (Sl wr (fun b=>b<wr.heap.size) (some ⟨w.heap.size,0,none⟩) l.length (Qab l)):=Lh (HOW.out.slv HWL.out.symm);have HEN:=Lh (ends_any (some ⟨w.heap.size,0,none⟩) l.length (Qab l) m wr HSW.out HR.out);rw[HWL.out] at HEN;clear HI HOW;go_wp2_with fail;refine HEN.out.mono ?_;rintro e w1 ⟨v1,rfl,ho1,hb1⟩;obtain⟨es,hes⟩:∃es,endsP (Qab l) m=es:=⟨_,rfl⟩;have hok:=endsP_ok HR.out;have hel:=endsP_len HR.out;rw[hes] at hok hel ho1;rw[HWL.out] at hok hel;have HES:=Lh hes;have HOK:=Lh hok;have hel5:es.length≤500:=(by omega);have HB1:=Lh (HB.out.trans (hb1.mono HB.out.size));have HIW1:=Lh (HIW.out.to hb1);have HG1:Hid (w.heap.size≤w1.heap.size):=Lh HB1.out.size;obtain⟨A1,c1,rfl,hs1⟩:=ho1.sl;rw[qM];have HS1:=Lh hs1;have hmk:=own_made (α:=Bd LineP w.heap.size) w1 (base:=w.heap.size) (n:=es.length) (e:=49) (z:=#[.int .i64 0,.int .i64 0,.slice none 0 0,.slice none 0 0]) (x:=⟨⟨0,0,[],[]⟩⟩) HG1.out (by unfold maxLen;omega) rfl (show 0<4 by omega) (by simp[Value.oneCell']) (fun W S=>⟨_,_,rfl,⟨none,0,rfl,Sl.nil _ _ _ _ (Nat.zero_le _),by show 0<9223372036854775808;omega⟩,⟨none,0,rfl,Sl.nil _ _ _ _ (Nat.zero_le _),by show 0<9223372036854775808;omega⟩⟩);have HO1:=Lh hmk;have hba:Below w1.heap.size w1 (w1.alloc (.cells (madeCells #[.int .i64 0,.int .i64 0,.slice none 0 0,.slice none 0 0] (es.length*Rep.size (Bd LineP w.heap.size))) 49)):=bR.alloc nL _;have HS2:=Lh (HS1.out.to hba);have HIW2:=Lh (HIW1.out.to hba);have HB2:=Lh (HB1.out.trans (hba.mono HB1.out.size));clear hes hok hel ho1 hb1 hs1 hmk hba HSW HEN HIW HB
   go_wp2_with (first|(refine Qby rfl 42 (.tmp 43) (.tmp 43) rfl 49 (.agg #[.int .i64 0,.int .i64 0,.slice none 0 0,.slice none 0 0]) 4 64 Tryd.underlying42 Qcn es.length rfl rfl (by omega) (by omega) ?_)|fail)
   have HP0:Hid (setP l first m=[]++Qai l (Qab l) m first 0 es):=Lh (by unfold setP;rw[HES.out];rfl);have HO2:Hid (Own (w1.alloc (.cells (madeCells #[.int .i64 0,.int .i64 0,.slice none 0 0,.slice none 0 0] (es.length*4)) 49)) w.heap.size 49 (.slice (some ⟨w1.heap.size,0,none⟩) es.length es.length) ((([]:List LineP)++List.replicate es.length (⟨0,0,[],[]⟩:LineP)).map (Bd.mk:LineP→Bd LineP w.heap.size))):=Lh (by rw[List.nil_append,List.map_replicate];exact HO1.out);have hba:Below w1.heap.size w1 (w1.alloc (.cells (madeCells #[.int .i64 0,.int .i64 0,.slice none 0 0,.slice none 0 0] (es.length*4)) 49)):=bR.alloc nL _;have HBA:=Lh hba;have HG2:Hid (w1.heap.size<(w1.alloc (.cells (madeCells #[.int .i64 0,.int .i64 0,.slice none 0 0,.slice none 0 0] (es.length*4)) 49)).heap.size):=Lh (by simp);clear hba HO1 HB2 HS2 HIW2;generalize w1.alloc (.cells (madeCells #[.int .i64 0,.int .i64 0,.slice none 0 0,.slice none 0 0] (es.length*4)) 49)=w2 at*
   go_loopw [13,47] (fun vf vi wr2=>∃(dn rest:List Nat) (done:List LineP) (fr:Nat),vf=.int .i64 (fr:Int)∧vi=.int .i64 (dn.length:Int)∧Hid (es=dn++rest)∧Hid (done.length=dn.length)∧Hid (setP l first m=done++Qai l (Qab l) m first fr rest)∧fr≤l.length∧Hid (endsOk fr l.length rest)∧ Hid (Own wr2 w.heap.size 49 (.slice (some ⟨w1.heap.size,0,none⟩) es.length es.length) ((done++List.replicate rest.length (⟨0,0,[],[]⟩:LineP)).map (Bd.mk:LineP→Bd LineP w.heap.size)))∧Hid (Below w1.heap.size w1 wr2∧w1.heap.size<wr2.heap.size)) (fun _ vi _=>es.length-(intOf vi).toNat)
   (case atStart=>exact⟨[],es,[],0,rfl,rfl,Lh rfl,Lh rfl,HP0,Nat.zero_le _,HOK,HO2,Lh ⟨HBA.out,HG2.out⟩⟩);case round=>
    clear HP0 HO2 HOK HBA HG2;clear w2;obtain⟨dn,rest,done,fr,rfl,rfl,HE2,HDL,HP,hfr,HOK,HO,HBw⟩:=hrel;have HLN:Hid (es.length=dn.length+rest.length):=Lh (by rw[HE2.out,qA]);cases rest with
    |nil=>
     have hge:¬(dn.length:Int)<(es.length:Int):=(by have:=HLN.out;rw[List.length_nil] at this;omega);go_wp2_with fail;go_ret;refine⟨_,rfl,?_,HB1.out.trans (HBw.out.1.mono HB1.out.size)⟩;have h1:=HO.out;have h2:=HP.out;rw[Qai,List.append_nil] at h2;rw[List.length_nil,List.replicate_zero,List.append_nil,←h2] at h1;have h3:es.length=((setP l first m).map (Bd.mk:LineP→Bd LineP w.heap.size)).length:=by
      obtain⟨A',c',e',_⟩:=h1.form;injection e'
     exact h1
    |cons e rest=>
     have hlt:(dn.length:Int)<(es.length:Int):=(by have:=HLN.out;rw[qC] at this;omega);have hn0:(0:Int)≤(dn.length:Int):=(by omega);obtain⟨h1,h2,hok2⟩:=HOK.out;have HOK2:=Lh hok2;have HSE:Hid (Sl ‹World› (fun b=>b<w1.heap.size) A1 c1 (es.map (fun(n:Nat)=>(n:Int)))):=Lh (HS1.out.keep (Kept.below HBw.out.1 (fun i hi=>hi)) HBw.out.1.size);have HI2:Hid (IRow wr w.heap.size 3 (Qab l)):=Lh ((HBw.out.1.block w.heap.size HIW1.out.lt).trans HIW1.out);obtain⟨b1,o1,hA1,-,-,-,ce⟩:=QbK HSE.out (k:=dn.length) (by have:=HLN.out;simp at this ⊢;omega)
     have hce:(es.map (fun(n:Nat)=>(n:Int)))[dn.length]'(by have:=HLN.out;simp at this ⊢;omega)=(e:Int):=by
      simp[HE2.out]
     rw[hce] at ce;have HFI:Hid ((0:Int)≤fr∧(fr:Int)<e∧(e:Int)≤l.length):=Lh ⟨by omega,by omega,by omega⟩;have hwf:IntKind.i64.wrap (first+(fr:Int))=first+(fr:Int):=IntWalk.i64_in _ (by omega)
     have hwe:IntKind.i64.wrap (first+(e:Int))=first+(e:Int):=IntWalk.i64_in _ (by omega)
     have hfe:(fr:Int)≤(e:Int):=(by omega);have hel:(e:Int)≤(l.length:Int):=(by omega);have hf0':(0:Int)≤(fr:Int):=(by omega);obtain⟨last,hlast⟩:∃last:Bool,decide (rest=[])=last:=⟨_,rfl⟩;have hlq:(((dn.length:Int))==(es.length:Int)-1)=last:=by
      rw[←hlast,Bool.eq_iff_iff,beq_iff_eq,decide_eq_true_iff,HLN.out,qC,←List.length_eq_zero_iff];clear hwf hwe;omega
     have HLA:=Lh hlast;clear hlast hce hok2 h1 h2 HS1 HLN HOK;subst hA1;have hne:¬e=fr:=by have:=HFI.out;intro h;omega
     have HSW2:Hid (Sl wr (fun b=>b<wr.heap.size) (some ⟨w.heap.size,fr,none⟩) (e-fr) (Qdm (Qab l) fr e)):=Lh (by
      have hown:=HI2.out.own (B:=0) (Nat.zero_le _) (fun y hy=>by have:=HR.out.w y hy;unfold I64;omega) (by have:=HWL.out;unfold maxLen;omega)
      have hs:=(hown.slv rfl).take e (by have:=HWL.out;omega)
      have hs2:Sl wr (fun b=>b<wr.heap.size) (some ⟨w.heap.size,0,none⟩) e ((Qab l).take e):=⟨by rw[qK];omega,by unfold maxLen;omega,hs.2.2⟩
      have hs3:=hs2.drop fr (by rw[qK];have:=HWL.out;omega)
      rw[if_neg hne] at hs3
      unfold Qdm;simpa[Qat,Rep.size] using hs3)
     have HGA:=Lh (gaps_any (some ⟨w.heap.size,fr,none⟩) (e-fr) (Qdm (Qab l) fr e) m last wr HSW2.out (HR.out.cut fr e));have hcl:(Qdm (Qab l) fr e).length=e-fr:=cutL_len _ (by omega) (by have:=HWL.out;omega);rw[hcl] at HGA;clear hcl HSW2;obtain⟨gp,hgp⟩:∃gp,Qdl (Qdm (Qab l) fr e) m last=gp:=⟨_,rfl⟩;rw[hgp] at HGA;have HGP:=Lh hgp;clear hgp
     go_upto_region 14 with(first|(go_at_call 81;refine HGA.out.mono ?_;rintro e' w3 ⟨v3,rfl,ho3,hb3⟩;obtain⟨A3,c3,rfl,-⟩:=ho3.form)|fail)
     have hba:Below w3.heap.size w3 (w3.alloc (.cells #[.int .i64 (first+(fr:Int)),.int .i64 (first+(e:Int)),.slice A3 gp.length c3,.slice none 0 0] 49)):=bR.alloc nL _;have HL0:Hid (LBx (w3.alloc (.cells #[.int .i64 (first+(fr:Int)),.int .i64 (first+(e:Int)),.slice A3 gp.length c3,.slice none 0 0] 49)) w3.heap.size (w3.heap.size+1) 49 (.int .i64 (first+(fr:Int))) (.int .i64 (first+(e:Int))) (.slice A3 gp.length c3) (.slice none 0 0) []):=Lh ⟨heap_alloc_new _ _,Own.nil _ _ _,Nat.lt_succ_self _,by simp⟩;have HBA:=Lh hba;have HO3:=Lh ho3;have HB3:=Lh hb3;have HB13:Hid (Below w.heap.size w w3):=Lh (HB1.out.trans ((HBw.out.1.trans (hb3.mono (Nat.le_of_lt HBw.out.2))).mono HB1.out.size));obtain⟨ba,oa,rfl,-⟩:=HS.out.2.2 (by have:=HFI.out;omega);have hcl:l.length≤c:=HS.out.1;have hec:(e:Int)≤(c:Int):=(by omega);have hcf:¬c=fr:=by have:=HFI.out;omega
     have HWC:Hid (Sl w (fun b=>b<w.heap.size) (some ⟨ba,oa+fr*4,none⟩) (c-fr) (Qdm l fr e)):=Lh (by
      have hs3:=(HS.out.take e (by omega)).drop fr (by rw[qK];have:=HFI.out;omega)
      rw[if_neg hcf] at hs3
      unfold Qdm;simpa[Qat,Rep.size] using hs3)
     have HCL:Hid ((Qdm l fr e).length=e-fr):=Lh (cutL_len _ (by have:=HFI.out;omega) (by omega));have HCN:Hid (∀x∈Qdm l fr e,0≤x.n∧x.n≤1000000):=Lh (fun x hx=>HNO.out x (by unfold Qdm at hx;exact List.mem_of_mem_take (List.mem_of_mem_drop hx)));have HCI:Hid (((e-fr:Nat):Int)=(e:Int)-(fr:Int)):=Lh (by have:=HFI.out;omega);have hw75:IntKind.i64.wrap ((e:Int)-(fr:Int))=((e-fr:Nat):Int):=(by rw[IntWalk.i64_in _ (by omega)];exact HCI.out.symm);generalize w3.alloc (.cells #[.int .i64 (first+(fr:Int)),.int .i64 (first+(e:Int)),.slice A3 gp.length c3,.slice none 0 0] 49)=w4 at*;clear hba ho3 hb3 hwf hwe hlq ce HSE HGA HI2;generalize hec0:Qdm l fr e=cw at*;have HEC:=Lh hec0;clear hec0;go_upto_region 15 with(fail);have HA0:Hid (Ap (w3.heap.size+1) w3.heap.size w4 w4):=Lh (Ap.refl _ _ _);generalize hO:w3.heap.size=O at*;have HOE:=Lh hO;clear hO;have HOW:Hid (w.heap.size≤O):=Lh (by have:=HB13.out.size;have:=HOE.out;omega);generalize hn:e-fr=n at*;have HN:=Lh hn;clear hn;obtain⟨wo,rfl⟩:∃wo:World,wo=wr:=⟨_,rfl⟩;go_loopw [76] (fun vi wx=>∃(k:Nat) (v:Value) (N:List Int),vi=.int .i64 (k:Int)∧k≤n∧Hid (LBx wx O (O+1) 49 (.int .i64 (first+(fr:Int))) (.int .i64 (first+(e:Int))) (.slice A3 gp.length c3) v N)∧Hid (N=Qaw (cw.take k))∧Hid (Ap (O+1) O w4 wx)) (fun vi _=>n-(intOf vi).toNat);(case atStart=>exact⟨0,_,[],rfl,Nat.zero_le _,HL0,Lh rfl,HA0⟩);case round=>
      clear HL0 HA0;obtain⟨k,v,N,rfl,hk,HL,HNK,HA⟩:=hrel;obtain⟨A4,c4,rfl,-⟩:=HL.out.n.form;have HB4:Hid (Below w.heap.size w wr):=Lh (HB13.out.trans ((HBA.out.mono HOW.out).trans (HA.out.below HOW.out (Nat.le_succ O))));by_cases hlt2:k<n
      ·have hki:(k:Int)<(n:Int):=by omega
       have hk0:(0:Int)≤(k:Int):=(by omega);have hn5:n≤500:=(by have:=HN.out;omega);obtain⟨b,o,hbo,-,hbl,-,e0,e1,e2,e3⟩:=Qdw (HWC.out.to HB4.out) (k:=k) (by rw[HCL.out];exact hlt2);cases hbo;obtain⟨x,hx⟩:∃x,cw[k]'(by rw[HCL.out];exact hlt2)=x:=⟨_,rfl⟩;rw[hx] at e0 e1 e2 e3;have HX:Hid (cw[k]? =some x):=Lh (by rw[qG (by rw[HCL.out];exact hlt2),hx]);have hxn:=HCN.out x (List.mem_of_getElem? HX.out);obtain⟨hx0,hx1⟩:=hxn;have HNN:Hid (N.length≤k):=Lh (by rw[HNK.out];exact Nat.le_trans (notesP_len _) (by rw[qK];omega));have HST:=Lh (notesP_step cw k x HX.out);rw[←HNK.out] at HST;have hba:Below wr.heap.size wr (wr.alloc (.cells #[.string x.s,.string x.key,.int .i64 x.t,.int .i64 x.n] 117)):=bR.alloc nL _;have HLA:=Lh (HL.out.below hba);have HAA:Hid (Ap (O+1) O w4 (wr.alloc (.cells #[.string x.s,.string x.key,.int .i64 x.t,.int .i64 x.n] 117))):=Lh (HA.out.trans (Ap.of (hba.mono HL.out.sz)));have m3:=(QaU (W:=wr) (o:=.cells #[.string x.s,.string x.key,.int .i64 x.t,.int .i64 x.n] 117) rfl);have n3:(wr.alloc (.cells #[.string x.s,.string x.key,.int .i64 x.t,.int .i64 x.n] 117)).cell? ⟨wr.heap.size,3,none⟩=some (.int .i64 x.n):=(by rw[cell_of_row _ _ _ _ _ _ m3];rfl);have HSZ:Hid ((wr.alloc (.cells #[.string x.s,.string x.key,.int .i64 x.t,.int .i64 x.n] 117)).heap.size=wr.heap.size+1):=Lh (by simp);have HOO:Hid (O+1≤wr.heap.size):=Lh HL.out.sz;clear hx hbl hba HL HA m3;go_upto_region 17 with(fail);generalize hwa:World.alloc wr _=wa;have hwb:wr.alloc (.cells #[.string x.s,.string x.key,.int .i64 x.t,.int .i64 x.n] 117)=wa:=hwa;rw[hwb] at HLA HAA n3 HSZ;clear hwa hwb e0 e1 e2 e3;by_cases h0:x.n=0
       ·have HSN:Hid (Qaw (cw.take (k+1))=N):=Lh (by rw[HST.out,if_neg (by simpa using h0)]);rw[h0] at n3;go_wp2_with fail;go_roundw;(case rel=>exact⟨k+1,_,N,by go_num,by omega,HLA,Lh HSN.out.symm,HAA⟩);case measure=>(first|(simp[intOf];done)|(simp[intOf];omega))
       ·have HSN:Hid (Qaw (cw.take (k+1))=N++[x.n-1]):=Lh (by rw[HST.out,if_pos h0]);have h00:(x.n==0)=false:=(by rw[beq_eq_false_iff_ne];exact h0);have q3:=HLA.out.o.cell 3 rfl;have hbb:Below wa.heap.size wa (wa.alloc (.cells #[.int .i64 (x.n-1)] 3)):=bR.alloc nL _;have HLB:=Lh (HLA.out.below hbb);have HAB:Hid (Ap (O+1) O w4 (wa.alloc (.cells #[.int .i64 (x.n-1)] 3))):=Lh (HAA.out.trans (Ap.of (hbb.mono HLA.out.sz)));have HI:Hid (I64 (x.n-1)):=Lh (by unfold I64;omega);have HN5:Hid (n≤500):=Lh (by have:=HN.out;omega);clear hbb
        go_wp2_with (first|(at_builtin;refine Qan (α:=Int) _ rfl (.tmp 84) (.tmp 88) 22 rfl (O+1) 3 (.int .i64 0) 8 Tryd.underlying22 QaY rfl (by decide) (.slice A4 N.length c4) N rfl HLB.out.n wa.heap.size #[.int .i64 (x.n-1)] (x.n-1) (0,0) 3 rfl (heap_alloc_new wa _) ⟨rfl,HI.out⟩ (by have:=HNN.out;have:=HN5.out;omega) (by have:=HNN.out;have:=HN5.out;omega) (by have:=HLB.out.sz;simpa using this) _ rfl ?_;intro g5 p5 w5 hown5 hg5 hat5 hlt5;obtain⟨hbx,hl5,ha5⟩:=HLB.out.push hown5 hg5;have q5:=hbx.cell 3 rfl;have qf:=hbx.fz 3;have HL5:=Lh hl5;have HA5:=Lh (HAB.out.trans ha5);clear hown5 hg5 hat5 hlt5 hbx hl5 ha5)|fail)
        go_roundw;(case rel=>exact⟨k+1,.slice (some ⟨g5,0,none⟩) (N.length+1) p5,N++[x.n-1],by go_num,by omega,HL5,Lh HSN.out.symm,HA5⟩);case measure=>(first|(simp[intOf];done)|(simp[intOf];omega))
      ·obtain rfl:k=n:=by omega
       have HNE:Hid (N=Qaw cw):=Lh (by rw[HNK.out,List.take_of_length_le (by rw[HCL.out];exact Nat.le_refl _)]);have HBO:Hid (Below O w3 wr):=Lh (HBA.out.trans (HA.out.below (Nat.le_refl O) (Nat.le_succ O)));have HLG:=Lh HL.out;have HOK3:Hid (Own wr w.heap.size 49 (.slice (some ⟨w1.heap.size,0,none⟩) es.length es.length) ((done++List.replicate (rest.length+1) (⟨0,0,[],[]⟩:LineP)).map (Bd.mk:LineP→Bd LineP w.heap.size))):=Lh (HO.out.kept (fun i hi=>((HBO.out.block i (by have:=HB3.out.size;have:=HOE.out;omega)).trans (HB3.out.block i hi))));have HGO:Hid (Own wr wo.heap.size 3 (.slice A3 gp.length c3) gp):=Lh (HO3.out.kept (fun i hi=>HBO.out.block i (by have:=HOE.out;omega)));have r0:=HL.out.o.cell 0 rfl;have r1:=HL.out.o.cell 1 rfl;have r2:=HL.out.o.cell 2 rfl;have r3:=HL.out.o.cell 3 rfl;obtain⟨L,hL⟩:∃L:List (Bd LineP w.heap.size),((done++List.replicate (rest.length+1) (⟨0,0,[],[]⟩:LineP)).map (Bd.mk:LineP→Bd LineP w.heap.size))=L:=⟨_,rfl⟩;have hLL:es.length=L.length:=(by rw[←hL,HE2.out];simp[HDL.out]);have HLE:=Lh hL;have HLLE:=Lh hLL;rw[hL] at HOK3;have HOK4:Hid (Own wr w.heap.size 49 (.slice (some ⟨w1.heap.size,0,none⟩) L.length es.length) L):=Lh (by have h:=HOK3.out;rwa [show Value.slice (some ⟨w1.heap.size,0,none⟩) es.length es.length=Value.slice (some ⟨w1.heap.size,0,none⟩) L.length es.length by rw[hLL]] at h);have HDI:Hid (dn.length<L.length):=Lh (by rw[←hLL,HE2.out];simp);have HTH:=Lh (HOK4.out.there HDI.out);have hrp:Rep.R wr (fun b=>b≠w1.heap.size) [.int .i64 (first+(fr:Int)),.int .i64 (first+(e:Int)),.slice A3 gp.length c3,.slice A4 N.length c4] (Bd.mk (B:=w.heap.size) (⟨first+(fr:Int),first+(e:Int),gp,N⟩:LineP)):=⟨_,_,rfl,QcT HGO.out rfl (fun b hb=>⟨by have:=HBw.out.2;omega,by have:=HBw.out.2;have:=HG1.out;omega⟩),QcT HL.out.n rfl (fun b hb=>⟨by have:=HBw.out.2;have:=HB3.out.size;have:=HOE.out;omega,by have:=HOW.out;omega⟩)⟩;have HSM:=Lh (HOK4.out.setMid HDI.out hrp)
       have HB5:Hid (Below w1.heap.size w1 (wr.setCells w1.heap.size (dn.length*4) [.int .i64 (first+(fr:Int)),.int .i64 (first+(e:Int)),.slice A3 gp.length c3,.slice A4 N.length c4])∧w1.heap.size<(wr.setCells w1.heap.size (dn.length*4) [.int .i64 (first+(fr:Int)),.int .i64 (first+(e:Int)),.slice A3 gp.length c3,.slice A4 N.length c4]).heap.size):=Lh (by
        have hb:Below w1.heap.size w1 wr:=HBw.out.1.trans ((HB3.out.trans (HBO.out.mono (by have:=HB3.out.size;have:=HOE.out;omega))).mono (Nat.le_of_lt HBw.out.2))
        exact⟨QbW nL _ _ hb,by rw[Qcp];have:=hb.size;have:=HBw.out.2;have:=HB3.out.size;have:=HBO.out.size;omega⟩)
       have HPX:Hid (setP l first m=(done++[(⟨first+(fr:Int),first+(e:Int),gp,N⟩:LineP)])++Qai l (Qab l) m first e rest):=Lh (by
        rw[HP.out,Qai,HLA.out,HGP.out,HEC.out,←HNE.out,List.append_assoc];rfl)
       have HON:Hid ((#[.int .i64 (first+(fr:Int)),.int .i64 (first+(e:Int)),.slice A3 gp.length c3,.slice A4 N.length c4]:Array Value).all (·.oneCell')=true):=Lh (by simp[Value.oneCell']);clear hrp hL hLL
       go_wp2_with (first|(refine wpList_store_mid rfl 49 (.tmp 96) (.tmp 94) rfl w1.heap.size (dn.length*4) #[.int .i64 (first+(fr:Int)),.int .i64 (first+(e:Int)),.slice A3 gp.length c3,.slice A4 N.length c4] rfl rfl HTH.out (by kernel_rfl) HON.out ?_)|fail)
       go_roundw
       case rel=>exact⟨dn++[e],rest,done++[⟨first+(fr:Int),first+(e:Int),gp,N⟩],e,rfl,by rw[qA];go_num,Lh (by rw[HE2.out];simp),Lh (by simp[HDL.out]),HPX,by have:=HFI.out;omega,HOK2,Lh (by
        have h:=HSM.out
        rw[←HLE.out,lines_set _ _ _ HDL.out,HLE.out,←HLLE.out] at h
        exact h),HB5⟩
       case measure=>(have h:=HLLE.out;have h2:=HDI.out;first|(simp[intOf];done)|(simp[intOf];omega))
end Go.Proofs.YtegaapiocihcpaaDoor
namespace Go.Proofs.YtegaapiocihcpaaDoor
theorem stepW_zero {np nn i:Nat}{notes n':Int}{x:Word}(h0:0≤notes)(h1:notes≤nn)(h:QbD np nn i notes x=(0,n')):(1≤QaV x.s∧QaV x.s≤480)∧0≤x.n∧x.n≤nn∧0≤n'∧n'≤nn:=by
 unfold QbD at h;split at h
 ·exact absurd (congrArg Prod.fst h) (by simp)
 ·rename_i hb;have hv:Qa6 x.s=true:=by
   cases hv:Qa6 x.s with
   |true=>rfl
   |false=>exact absurd (bad_s hv) hb
  have hw:1≤QaV x.s∧QaV x.s≤480:=by
   have h1:=hv;rw[valid_iff] at h1;have h2:0<QaV x.s:=of_decide_eq_true h1;refine⟨h2,?_⟩;have h3:=sumW_bd x.s.data.toList;have h4:x.s.data.toList.length=x.s.size:=rfl;unfold QaV at h2 ⊢;split
   ·omega
   ·split
    ·omega
    ·omega
  split at h
  ·exact absurd (congrArg Prod.fst h) (by simp)
  ·split at h
   ·rename_i hn;have:=congrArg Prod.snd h;simp at this;exact⟨hw,by omega,by omega,by omega,by omega⟩
   ·split at h
    ·exact absurd (congrArg Prod.fst h) (by simp)
    ·rename_i hn hh;have:=congrArg Prod.snd h;simp at this;exact⟨hw,by omega,by omega,by omega,by omega⟩
theorem scanW_zero {np nn i:Nat}:∀(p:List Word) (notes n':Int),0≤notes→notes≤nn→Qav np nn i notes p=(0,n')→(∀x∈p,(1≤QaV x.s∧QaV x.s≤480)∧0≤x.n∧x.n≤nn)∧0≤n'∧n'≤nn
 |[],notes,n',h0,h1,h=>by
  have:=congrArg Prod.snd h;simp[Qav] at this;exact⟨by simp,by omega,by omega⟩
 |x::p,notes,n',h0,h1,h=>by
  rw[Qav] at h;split at h
  ·rename_i hs;have hx:=stepW_zero (x:=x) (np:=np) (nn:=nn) (i:=i) (n':=(QbD np nn i notes x).2) h0 h1 (by rw[←hs]);have ih:=scanW_zero p _ n' hx.2.2.2.1 hx.2.2.2.2 h;exact⟨fun y hy=>(List.mem_cons.1 hy).elim (fun e=>e▸⟨hx.1,hx.2.1,hx.2.2.1⟩) (ih.1 y),ih.2⟩
  ·rename_i hs;exact absurd (congrArg Prod.fst h) hs
theorem scanP_zero {np nn:Nat}:∀(l:List (List Word)) (i:Nat) (notes n':Int),0≤notes→notes≤nn→Qbd np nn i notes l=(0,n')→∀p∈l,∀x∈p,(1≤QaV x.s∧QaV x.s≤480)∧0≤x.n∧x.n≤nn
 |[],_,_,_,_,_,_=>by simp
 |p::l,i,notes,n',h0,h1,h=>by
  rw[Qbd] at h;split at h
  ·rename_i hs;have hx:=scanW_zero p notes (Qav np nn i notes p).2 h0 h1 (by rw[←hs]);have ih:=scanP_zero l (i+1) _ n' hx.2.1 hx.2.2 h;exact fun q hq=>(List.mem_cons.1 hq).elim (fun e=>e▸hx.1) (ih q)
  ·rename_i hs;exact absurd (congrArg Prod.fst h) hs
structure FineT (a b:List (List Word)):Prop where
 la:a.length≤100
 lb:b.length≤100
 p:∀p∈a++b,1≤p.length∧p.length≤500
 w:∀p∈a++b,∀x∈p,(1≤QaV x.s∧QaV x.s≤480)∧0≤x.n∧x.n≤100
theorem chk_zero {a b:List (List Word)}(h:Qdn a b=0):FineT a b:=by
 unfold Qdn at h;split at h
 ·exact absurd h (by decide)
 ·rename_i h1;split at h
  ·exact absurd h (by decide)
  ·rename_i h2
   have hp:∀p∈a++b,1≤p.length∧p.length≤500:=fun p hp=>by
    have a1:¬QaH Qdu (a++b)=true:=fun e=>h1 (.inr (.inr e))
    unfold QaH at a1 h2;rw[List.any_eq_true] at a1 h2;have b1:¬Qdu p.length=true:=fun e=>a1 ⟨p,hp,e⟩
    have b2:¬QbX p.length=true:=fun e=>h2 ⟨p,hp,e⟩
    unfold Qdu at b1;unfold QbX at b2;rw[decide_eq_true_iff] at b1 b2;omega
   have hb:b.length≤100:=(by omega);refine⟨by omega,hb,hp,?_⟩;unfold endP at h;split at h
   ·exact absurd h (by assumption)
   ·rename_i h3;have hz:(Qbd a.length b.length 0 0 (a++b)).1=0:=by
     rcases Classical.em ((Qbd a.length b.length 0 0 (a++b)).1=0) with h4|h4
     ·exact h4
     ·exact absurd h4 h3
    have:=scanP_zero (a++b) 0 0 (Qbd a.length b.length 0 0 (a++b)).2 (Int.le_refl _) (by omega) (Prod.ext hz rfl);intro p hp x hx;have h5:=this p hp x hx;exact⟨h5.1,h5.2.1,by omega⟩
theorem FineT.reg {a b:List (List Word)}(h:FineT a b){m:Int}(h1:500≤m)(h2:m≤2000){p:List Word}(hp:p∈a++b):Reg (Qab p) m:=
 ⟨by unfold Qab;rw[qM];exact(h.p p hp).2,h1,h2,fun x hx=>by
  unfold Qab at hx
  obtain⟨y,hy,rfl⟩:=List.mem_map.1 hx
  exact(h.w p hp y hy).1⟩
theorem tot_bound:∀l:List (List Word),(∀p∈l,p.length≤500)→tot l≤500*l.length
 |[],_=>by simp[tot]
 |p::l,h=>by
  have h1:=h p (by simp);have h2:=tot_bound l (fun q hq=>h q (by simp[hq]));unfold tot at*;rw[List.flatten_cons,qA,qC];omega
theorem FineT.tot {a b:List (List Word)}(h:FineT a b):tot (a++b)≤100000:=by
 have h1:=tot_bound (a++b) (fun p hp=>(h.p p hp).2);have h2:=h.la;have h3:=h.lb;rw[qA] at h1;omega
theorem Qbt (a b:List (List Word)):tot (a++b)=tot a+tot b:=by unfold tot;simp
theorem Qa4 (m:Int):∀(a b:List (List Word)) (first:Int),Qaj m first (a++b)=Qaj m first a++Qaj m (first+(tot a:Nat)) b
 |[],b,first=>by simp[Qaj,tot]
 |p::a,b,first=>by
  have e:first+(p.length:Int)+(tot a:Nat)=first+(tot (p::a):Nat):=(by unfold tot;simp;omega);rw[List.cons_append,Qaj,Qa4 m a b,Qaj,e];rfl
theorem QaG (m:Int):∀(a:List (List Word)) (first:Int),(Qaj m first a).length=a.length
 |[],_=>rfl
 |p::a,first=>by rw[Qaj,qC,qC,QaG]
theorem Qa2 (ws:List Word)(wd:List Int)(m first:Int):∀(es:List Nat) (i:Nat),(Qai ws wd m first i es).length=es.length
 |[],_=>rfl
 |e::es,i=>by rw[Qai,qC,qC,Qa2]
end Go.Proofs.YtegaapiocihcpaaDoor
namespace Go.Proofs.YtegaapiocihcpaaDoor
open Go.RowKit
theorem sl_bdS {α:Type}[Rep α]{w:World}{A:Option Addr}{c B:Nat}{l:List α}{S:Nat→Prop}(h:Sl w S A c l)(hS:∀i,S i→B≤i):Sl w S A c (l.map (Bd.mk:α→Bd α B)):=by
 refine⟨by rw[qM];exact h.1,h.2.1,fun h0=>?_⟩;rw[qM] at h0;obtain⟨b,o,rfl,hb,hlt,hx⟩:=h.2.2 h0;refine⟨b,o,rfl,hb,hlt,fun i hi=>?_⟩;rw[qM] at hi;obtain⟨es,hr,hc⟩:=hx i hi;rw[List.getElem_map];exact⟨es,Rep.mono (α:=α) hr (fun i hi _=>⟨hi,hS i hi⟩),hc⟩
theorem Qco {α:Type}[Rep α]{w:World}{base B:Nat}{e:TypeId}{v:Value}{l:List α}(h:Own w base e v (l.map (Bd.mk:α→Bd α B)))(hB:B≤base):∃A c,v=.slice A l.length c∧Sl w (fun b=>b<w.heap.size∧B≤b) A c l:=by
 obtain⟨A,c,h1,h2⟩:=bd_sl h hB;have e:(l.map (Bd.mk:α→Bd α B)).map Bd.x=l:=by
  rw[List.map_map];exact(List.map_congr_left (fun _ _=>rfl)).trans (List.map_id l)
 rw[e] at h1 h2;exact⟨A,c,h1,h2⟩
theorem line_infoB (B:Nat):(Tryd.prog.info? 49).map (fun i=>(i.zero,i.size,i.bytes))=some (some (.agg #[.int .i64 0,.int .i64 0,.slice none 0 0,.slice none 0 0]),Rep.size (Bd LineP B),64):=Qcn
theorem lns_info (B:Nat):(Tryd.prog.info? 42).map (fun i=>(i.zero,i.size,i.bytes))=some (some (.slice none 0 0),Rep.size (Bd (List LineP) B),24):=by kernel_rfl
theorem partsP_step (m:Int)(a:List (List Word))(k:Nat)(h:k<a.length):Qaj m 0 (a.take (k+1))=Qaj m 0 (a.take k)++[setP a[k] (tot (a.take k):Nat) m]:=by
 rw[qT h,Qa4,Int.zero_add];rfl
theorem partsP_stepF (m:Int)(b:List (List Word))(k:Nat)(h:k<b.length)(f:Int):Qaj m f (b.take (k+1))=Qaj m f (b.take k)++[setP b[k] (f+(tot (b.take k):Nat)) m]:=by
 rw[qT h,Qa4];rfl
theorem Qb5 {p:List Word}{first m:Int}(hr:Reg (Qab p) m):(setP p first m).length≤p.length:=by
 have h:=endsP_len hr;unfold setP;rw[Qa2];unfold Qab at h;rwa [qM] at h
theorem Qa8 (m:Int):∀(a:List (List Word)) (first:Int),(∀p∈a,Reg (Qab p) m)→(Qaj m first a).flatten.length≤tot a
 |[],_,_=>by simp[Qaj,tot]
 |p::a,first,h=>by
  have h1:=Qb5 (first:=first) (h p (by simp));have h2:=Qa8 m a (first+p.length) (fun q hq=>h q (by simp[hq]));rw[Qaj,List.flatten_cons,qA];unfold tot at*;rw[List.flatten_cons,qA];omega
set_option maxRecDepth 100000 in
theorem lines_any (A B:Option Addr)(c d:Nat)(a b:List (List Word))(m:Int)(w:World)(hT:Laid w)(ha:Sl w (fun b=>b<w.heap.size) A c a)(hb:Sl w (fun b=>b<w.heap.size) B d b)(hla:a.length≤1048576)(hlb:b.length≤1048576):
 Calls Tryd.prog 50 #[.agg #[.slice A a.length c,.slice B b.length d],.int .i64 m] w fun e w'=>∃v u,e=.returned (.tuple #[v,u,.int .i64 (Qa3 a b m)])∧ (Qa3 a b m=0→Own w' w.heap.size 49 v ((QaA a m).map (Bd.mk:LineP→Bd LineP w.heap.size))∧Own w' w.heap.size 42 u ((Qah a b m).map (Bd.mk:List LineP→Bd (List LineP) w.heap.size)))∧(Qa3 a b m≠0→v=.slice none 0 0∧u=.slice none 0 0)∧Below w.heap.size w w':=by
 have HX:Hid (ABox (w.alloc (.cells #[.slice A a.length c,.slice B b.length d] 38)) w.heap.size 38 [.slice A a.length c,.slice B b.length d]):=Lh (heap_alloc_new w _);have hba:Below w.heap.size w (w.alloc (.cells #[.slice A a.length c,.slice B b.length d] 38)):=bR.alloc nL _;have HB0:=Lh hba;have HSA:=Lh (ha.to hba);have HSB:=Lh (hb.to hba);have HT:=Lh (hT.to hba);have HSZ:Hid ((w.alloc (.cells #[.slice A a.length c,.slice B b.length d] 38)).heap.size=w.heap.size+1):=Lh (by simp);clear hT ha hb hba;go_enter Tryd.func50,Tryd.ntmps50;go_upto_region 1 with(fail);generalize hw1:World.alloc w _=w1;have hw2:(w.alloc (.cells #[.slice A a.length c,.slice B b.length d] 38))=w1:=hw1;rw[hw2] at HX HB0 HSA HSB HT HSZ;clear hw1 hw2;have HC:=Lh (gcheck_any A B c d a b w1 HT.out HSA.out HSB.out hla hlb);have q0:=HX.out.cell 0 rfl;have q1:=HX.out.cell 1 rfl;obtain⟨ck,hck⟩:∃ck,Qdn a b=ck:=⟨_,rfl⟩;rw[hck] at HC;have HCK:=Lh hck;clear hck
 go_upto_region 2 with(first|(go_at_call 64;refine HC.out.mono ?_;rintro e w2 ⟨rfl,hb2⟩)|fail)
 have HX2:=Lh (HX.out.to hb2);have HB2:=Lh (HB0.out.trans (hb2.mono HB0.out.size));have HSA2:=Lh (HSA.out.to hb2);have HSB2:=Lh (HSB.out.to hb2);have HT2:=Lh (HT.out.to hb2);have HZ2:Hid (w.heap.size+1≤w2.heap.size):=Lh (by have:=HSZ.out;have:=hb2.size;omega);clear HC q0 q1 hb2 HX HB0 HSA HSB HT HSZ;clear w1;by_cases h0:ck=0
 ·subst h0;by_cases hm:500≤m∧m≤2000
  ·obtain⟨hm1,hm2⟩:=hm;have HLE:Hid (Qa3 a b m=0):=Lh (by unfold Qa3;rw[HCK.out,if_neg (by simp),if_pos ⟨hm1,hm2⟩]);have HFT:=Lh (chk_zero HCK.out);have hla1:a.length≤100:=HFT.out.la;have hlb1:b.length≤100:=HFT.out.lb;have q0:=HX2.out.cell 0 rfl;have htb:=HFT.out.tot;rw[Qbt] at htb;have HTB:=Lh htb;have HRG:Hid (∀p∈a++b,Reg (Qab p) m):=Lh (fun p hp=>HFT.out.reg hm1 hm2 hp);clear htb;go_wp2_with fail;go_loopw [8,10,29] (fun vb vf vi wr=>∃k:Nat,k≤a.length∧vi=.int .i64 (k:Int)∧vf=.int .i64 ((tot (a.take k):Nat):Int)∧Hid (Own wr w2.heap.size 49 vb ((Qaj m 0 (a.take k)).flatten.map (Bd.mk:LineP→Bd LineP w.heap.size)))∧Hid (Below w2.heap.size w2 wr)) (fun _ _ vi _=>a.length-(intOf vi).toNat);(case atStart=>exact⟨0,Nat.zero_le _,rfl,by simp[tot],Lh (Own.nil _ _ _),Lh bR⟩);case round=>
    obtain⟨k,hk,rfl,rfl,HO,HBw⟩:=hrel;obtain⟨A8,c8,rfl,-⟩:=HO.out.form;have HSAw:=Lh (HSA2.out.to HBw.out);have HTw:=Lh (HT2.out.to HBw.out);have HWL:Hid (w.heap.size≤wr.heap.size):=Lh (by have:=HZ2.out;have:=HBw.out.size;omega);have HBW:Hid (Below w.heap.size w wr):=Lh (HB2.out.trans (HBw.out.mono (by have:=HZ2.out;omega)));by_cases hlt:k<a.length
    ·have hki:(k:Int)<(a.length:Int):=by omega
     have hk0:(0:Int)≤(k:Int):=(by omega);obtain⟨b1,o1,A1,c1,hA1,-,-,ce,hsp⟩:=Qbw HSAw.out hlt;subst hA1;have hmem:a[k]∈a++b:=List.mem_append_left _ (List.getElem_mem hlt);have HRP:=Lh (HRG.out _ hmem);have HWP:=Lh (HFT.out.w _ hmem);have htk:=QcV a k hlt;have htl:=tot_le a (k+1);have HST:=Lh (partsP_step m a k hlt);have hpf:=Qa8 m (a.take k) 0 (fun p hp=>HRG.out p (List.mem_append_left _ (List.mem_of_mem_take hp)));have hset:=Qb5 (first:=((tot (a.take k):Nat):Int)) HRP.out;obtain⟨p,hp⟩:∃p,a[k]=p:=⟨_,rfl⟩;rw[hp] at ce hsp HRP HWP htk HST hset;have hpl:p.length≤500:=(by rw[←hp];exact(HFT.out.p _ hmem).2);obtain⟨t,ht⟩:∃t,tot (a.take k)=t:=⟨_,rfl⟩;rw[ht] at htk HST hpf hset ⊢;have ht9:t≤100000:=(by have:=HTB.out;omega);have HSET:=Lh (set_any A1 c1 p (t:Int) m wr hsp HTw.out HRP.out (by omega) (by omega) (fun x hx=>by have:=HWP.out x hx;omega));have HTK:=Lh htk;have HPF:=Lh hpf;have HSL:=Lh hset;obtain⟨pl,hpl'⟩:∃pl,setP p (t:Int) m=pl:=⟨_,rfl⟩;rw[hpl'] at HSET HST HSL;obtain⟨fl,hfl⟩:∃fl,(Qaj m 0 (a.take k)).flatten=fl:=⟨_,rfl⟩;have HST2:Hid ((Qaj m 0 (a.take (k+1))).flatten=fl++pl):=Lh (by rw[HST.out,List.flatten_append,hfl];simp);rw[hfl] at HO HPF ⊢;rw[qM] at HO;have HLK:=Lh HO.out.lt;have HFL:Hid (fl.length≤100000):=Lh (Nat.le_trans HPF.out (by omega));have HPL:Hid (pl.length≤500):=Lh (Nat.le_trans HSL.out hpl);clear hsp hmem hp htk htl hpf hset ht hpl' hfl HST HRP HWP HSAw HTw
     go_upto_region 13 with(first|(go_at_call 65;refine HSET.out.mono ?_;rintro e w3 ⟨v3,rfl,ho3,hb3⟩;obtain⟨A3,c3,hv3,hs3⟩:=Qco ho3 nL;subst hv3;have HS3:=Lh (sl_bdS (B:=w.heap.size) hs3 (fun i hi=>Nat.le_trans HWL.out hi.2));have HO3:=Lh (HO.out.below hb3);have HB3:=Lh (HBw.out.trans (hb3.mono HBw.out.size));clear ho3 hb3 hs3)|(at_builtin;refine QaF (α:=Bd LineP w.heap.size) _ rfl (.tmp 33) (.tmp 37) 42 rfl w2.heap.size 49 (.agg #[.int .i64 0,.int .i64 0,.slice none 0 0,.slice none 0 0]) 64 Tryd.underlying42 (line_infoB _) rfl (show 0<4 by omega) (.slice A8 fl.length c8) (fl.map (Bd.mk:LineP→Bd LineP w.heap.size)) rfl HO3.out A3 c3 pl.length (pl.map (Bd.mk:LineP→Bd LineP w.heap.size)) rfl (by rw[qM]) (fun b=>b<w3.heap.size∧wr.heap.size≤b) HS3.out (fun i hi _ e=>by have:=(HLK.out i e.symm).2;omega) (by have:=HFL.out;have:=HPL.out;rw[qM];omega) (by have:=HFL.out;have:=HPL.out;rw[qM];omega) HB3.out.size ?_;intro v4 w4 hown4 hg4 hat4;have HB4:=Lh (QaE HB3.out HO3.out HB3.out.size hg4);have HO4:=Lh hown4;clear hown4 hg4 hat4)|fail)
     rw[←List.map_append] at HO4;have hw13:IntKind.i64.wrap ((t:Int)+(p.length:Int))=((tot (a.take (k+1)):Nat):Int):=(by rw[IntWalk.i64_in _ (by omega),HTK.out];omega);go_wp2_with fail;go_roundw;(case rel=>exact⟨k+1,by omega,by go_num,rfl,Lh (by rw[HST2.out];exact HO4.out),HB4⟩);case measure=>(first|(simp[intOf];done)|(simp[intOf];omega))
    ·obtain rfl:k=a.length:=by omega
     have HBO:Hid (Own wr w2.heap.size 49 (.slice A8 ((Qaj m 0 (a.take a.length)).flatten.map (Bd.mk:LineP→Bd LineP w.heap.size)).length c8) ((QaA a m).map (Bd.mk:LineP→Bd LineP w.heap.size))):=Lh (by have h:=HO.out;rw[List.take_length] at h ⊢;exact h);have hta:tot (a.take a.length)=tot a:=(by rw[List.take_length]);generalize ((Qaj m 0 (a.take a.length)).flatten.map (Bd.mk:LineP→Bd LineP w.heap.size)).length=bl at*;rw[hta];have hX1:=(HX2.out.to HBw.out).cell 1 rfl;clear HO hta HSAw;have hbw2:=HBw.out;obtain⟨wo,rfl⟩:∃wo:World,wo=wr:=⟨_,rfl⟩;have HSBo:Hid (Sl wo (fun b=>b<wo.heap.size) B d b):=Lh (HSB2.out.to HBw.out);have HTo:Hid (Laid wo):=HTw;clear hbw2 HBw HTw;go_wp2_with fail;go_loopw [9,10,47] (fun vn vf vi wr=>∃k:Nat,k≤b.length∧vi=.int .i64 (k:Int)∧vf=.int .i64 (((tot a:Nat):Int)+((tot (b.take k):Nat):Int))∧Hid (Own wr wo.heap.size 42 vn ((Qaj m ((tot a:Nat):Int) (b.take k)).map (Bd.mk:List LineP→Bd (List LineP) w.heap.size)))∧Hid (Below wo.heap.size wo wr)) (fun _ _ vi _=>b.length-(intOf vi).toNat);(case atStart=>exact⟨0,Nat.zero_le _,rfl,by simp[tot],Lh (Own.nil _ _ _),Lh bR⟩);case round=>
      obtain⟨k,hk,rfl,rfl,HO,HBv⟩:=hrel;obtain⟨A9,c9,rfl,-⟩:=HO.out.form;have HWL:Hid (w.heap.size≤wr.heap.size):=Lh (by have:=HBW.out.size;have:=HBv.out.size;omega);by_cases hlt:k<b.length
      ·have hki:(k:Int)<(b.length:Int):=by omega
       have hk0:(0:Int)≤(k:Int):=(by omega);obtain⟨b1,o1,A1,c1,hA1,-,-,ce,hsp⟩:=Qbw (HSBo.out.to HBv.out) hlt;subst hA1;have hmem:b[k]∈a++b:=List.mem_append_right _ (List.getElem_mem hlt);have HRP:=Lh (HRG.out _ hmem);have HWP:=Lh (HFT.out.w _ hmem);have htk:=QcV b k hlt;have htl:=tot_le b (k+1);have HST:=Lh (partsP_stepF m b k hlt ((tot a:Nat):Int));have hset:=Qb5 (first:=((tot a:Nat):Int)+((tot (b.take k):Nat):Int)) HRP.out;have HNL:=Lh (QaG m (b.take k) ((tot a:Nat):Int));obtain⟨p,hp⟩:∃p,b[k]=p:=⟨_,rfl⟩;rw[hp] at ce hsp HRP HWP htk HST hset;have hpl:p.length≤500:=(by rw[←hp];exact(HFT.out.p _ hmem).2);obtain⟨t,ht⟩:∃t:Nat,((tot a:Nat):Int)+((tot (b.take k):Nat):Int)=(t:Int):=⟨tot a+tot (b.take k),by omega⟩;rw[ht] at HST hset ⊢;have ht9:t≤100000:=(by have:=HTB.out;omega);have HSET:=Lh (set_any A1 c1 p (t:Int) m wr hsp (HTo.out.to HBv.out) HRP.out (by omega) (by omega) (fun x hx=>by have:=HWP.out x hx;omega));have HSL:=Lh hset;have HPB:Hid ((t:Int)+(p.length:Int)=((tot a:Nat):Int)+((tot (b.take (k+1)):Nat):Int)):=Lh (by omega);obtain⟨pl,hpl'⟩:∃pl,setP p (t:Int) m=pl:=⟨_,rfl⟩;rw[hpl'] at HSET HST HSL;have HPL:Hid (pl.length≤500):=Lh (Nat.le_trans HSL.out hpl);obtain⟨fl,hfl⟩:∃fl,Qaj m ((tot a:Nat):Int) (b.take k)=fl:=⟨_,rfl⟩;rw[hfl] at HO HNL HST ⊢;rw[qM] at HO;have HFL:Hid (fl.length≤100):=Lh (by have:=HNL.out;rw[qK] at this;omega);have HLK:=Lh HO.out.lt;clear hsp hmem hp htk htl hset hpl' hfl HRP HWP ht
       go_upto_region 19 with(first|(go_at_call 65;refine HSET.out.mono ?_;rintro e w3 ⟨v3,rfl,ho3,hb3⟩;obtain⟨A3,c3,hv3,hs3⟩:=Qco ho3 nL;subst hv3;have hbb:=(Below.refl w3.heap.size w3).alloc nL (.cells #[.slice A3 pl.length c3] 42);have HS3:=Lh (hs3.keep (Kept.all hbb) hbb.size);have HO3:=Lh ((HO.out.below hb3).below hbb);have HB3:=Lh (HBv.out.trans ((hb3.trans (hbb.mono hb3.size)).mono HBv.out.size));have HZ3:=Lh hb3.size;clear ho3 hb3 hs3 hbb)|(at_builtin;refine Qan (α:=Bd (List LineP) w.heap.size) _ rfl (.tmp 51) (.tmp 56) 99 rfl wo.heap.size 42 (.slice none 0 0) 24 Tryd.underlying99 (lns_info _) rfl (show 0<1 by omega) (.slice A9 fl.length c9) (fl.map (Bd.mk:List LineP→Bd (List LineP) w.heap.size)) rfl HO3.out w3.heap.size #[.slice A3 pl.length c3] ⟨pl⟩ (0,0) 42 rfl (heap_alloc_new w3 _) ⟨A3,c3,rfl,HS3.out.mono (fun i hi hl=>⟨fun e=>by have:=(HLK.out i e.symm).2;have:=HZ3.out;omega,by have:=HWL.out;omega⟩),by have:=HPL.out;show pl.length<_;omega⟩ (by have:=HFL.out;rw[qM];omega) (by have:=HFL.out;rw[qM];omega) HB3.out.size _ rfl ?_;intro g5 p5 w5 hown5 hg5 hat5 hlt5;have HB4:=Lh (QaE HB3.out HO3.out HB3.out.size hg5);have HO4:=Lh hown5;clear hown5 hg5 hat5 hlt5)|fail)
       have hw19:IntKind.i64.wrap ((t:Int)+(p.length:Int))=((tot a:Nat):Int)+((tot (b.take (k+1)):Nat):Int):=(by rw[IntWalk.i64_in _ (by omega),HPB.out]);rw[qM] at HO4;go_wp2_with fail;go_roundw;(case rel=>exact⟨k+1,by omega,by go_num,rfl,Lh (by rw[HST.out,List.map_append];exact HO4.out),HB4⟩);case measure=>(first|(simp[intOf];done)|(simp[intOf];omega))
      ·obtain rfl:k=b.length:=by omega
       have HNO:Hid (Own wr wo.heap.size 42 (.slice A9 ((Qaj m ((tot a:Nat):Int) (b.take b.length)).map (Bd.mk:List LineP→Bd (List LineP) w.heap.size)).length c9) ((Qah a b m).map (Bd.mk:List LineP→Bd (List LineP) w.heap.size))):=Lh (by have h:=HO.out;rw[List.take_length] at h ⊢;exact h);have HBO2:=Lh (HBO.out.below HBv.out);have HBF:=Lh (HBW.out.trans (HBv.out.mono HBW.out.size));have HW2:Hid (w.heap.size≤w2.heap.size):=Lh (by have:=HZ2.out;omega);have HW3:=Lh HBW.out.size;generalize ((Qaj m ((tot a:Nat):Int) (b.take b.length)).map (Bd.mk:List LineP→Bd (List LineP) w.heap.size)).length=nl at*;clear HO;go_wp2_with fail;go_ret3;exact⟨_,_,by rw[HLE.out];rfl,fun _=>⟨HBO2.out.re HW2.out,HNO.out.re HW3.out⟩,fun h=>absurd HLE.out h,HBF.out⟩
  ·have HLE:Hid (Qa3 a b m=5):=Lh (by unfold Qa3;rw[HCK.out,if_neg (by simp),if_neg hm]);by_cases h5:m<500
   ·go_wp2_with fail;go_ret3;exact⟨.slice none 0 0,.slice none 0 0,by rw[HLE.out];rfl,by rw[HLE.out];exact fun h=>absurd h (by decide),fun _=>⟨rfl,rfl⟩,HB2.out⟩
   ·have h6:2000<m:=by omega
    go_wp2_with fail;go_ret3;exact⟨.slice none 0 0,.slice none 0 0,by rw[HLE.out];rfl,by rw[HLE.out];exact fun h=>absurd h (by decide),fun _=>⟨rfl,rfl⟩,HB2.out⟩
 ·have HLE:Hid (Qa3 a b m=ck):=Lh (by unfold Qa3;rw[HCK.out,if_pos h0]);have h00:(ck==0)=false:=(by rw[beq_eq_false_iff_ne];exact h0);go_wp2_with fail;go_ret3;exact⟨.slice none 0 0,.slice none 0 0,by rw[HLE.out];rfl,by rw[HLE.out];exact fun h=>absurd h h0,fun _=>⟨rfl,rfl⟩,HB2.out⟩
def Qcz (p:Nat→Bool)(l:List (List LineP)):Bool:=l.any fun x=>p x.length
theorem anyLn_take (p:Nat→Bool)(l:List (List LineP))(k:Nat)(h:k<l.length):Qcz p (l.take (k+1))=(Qcz p (l.take k)||p l[k].length):=by
 unfold Qcz;rw[qT h,List.any_append];simp
theorem anyLn_hit (p:Nat→Bool)(l:List (List LineP))(k:Nat)(h:k<l.length)(hp:p l[k].length=true):Qcz p l=true:=List.any_eq_true.2 ⟨_,List.getElem_mem h,hp⟩
def IsIdxL (p:Nat→Bool)(l:List (List LineP))(w:World)(e:Ending)(w':World):Prop:=∃r:Int,e=.returned (.int .i64 r)∧decide (0≤r)=Qcz p l∧w=w'
theorem indexFuncL_any (A:Option Addr)(c n:Nat)(l:List (List LineP))(f:FuncId)(p:Nat→Bool)(w:World)(hl:Sl w (fun b=>b<w.heap.size) A c l)(hn:l.length=n) (hcf:∀(w':World) (args:Array Value),(callFunc f args).run Tryd.prog w'=.ok (.enter f args) w') (hf:∀(A:Option Addr) (n c:Nat) (w':World),Calls Tryd.prog f #[.slice A n c] w' fun e w''=>e=.returned (.bool (p n))∧w'=w''):
 Calls Tryd.prog 91 #[.slice A n c,.func (.func f) #[] #[]] w (IsIdxL p l w):=by
 subst hn;have hlen:l.length≤9223372036854775807:=by have:=hl.1;have:=hl.2.1;unfold maxLen at this;omega
 have Hf:=Lh hf;have Hl:=Lh hl;clear hf hl;go_enter Tryd.func91,Tryd.ntmps91;go_wp2_with fail;go_loopw [5,8] (fun _ i wr=>∃k:Nat,k≤l.length∧i=.int .i64 k∧Hid (Qcz p (l.take k)=false)∧wr=w) (fun _ i _=>l.length-(intOf i).toNat);(case atStart=>exact⟨0,Nat.zero_le _,rfl,Lh (by simp[Qcz]),rfl⟩);case round=>
  obtain⟨k,hk,rfl,hno,rfl⟩:=hrel;by_cases hlt:k<l.length
  ·obtain⟨b,o,A1,c1,rfl,_,hbl,hc,-⟩:=Qbw Hl.out hlt;have hkl:(k:Int)<(l.length:Int):=(by omega);have hk0:(0:Int)≤(k:Int):=(by omega);have HT:=Lh (anyLn_take p l k hlt);have HH:=Lh (anyLn_hit p l k hlt);generalize l[k]=q at*;go_wp2_with fail;refine(Hf.out _ _ _ _).mono ?_;rintro e w' ⟨rfl,rfl⟩;cases hp:p q.length
   ·have E:=Lh (show Qcz p (l.take (k+1))=false by rw[HT.out,hno.out,hp];rfl);clear hp;go_wp2_with fail;go_roundw;(case rel=>exact⟨k+1,by omega,by go_num,E,by first|trivial|rfl⟩);case measure=>simp[intOf];omega
   ·have E:=Lh (HH.out hp);clear hp;go_wp2_with fail;go_ret;exact⟨k,rfl,by rw[E.out];exact decide_eq_true hk0,rfl⟩
  ·have E:=Lh (show Qcz p l=false by have:=hno.out;rwa [List.take_of_length_le (by omega)] at this);go_wp2_with fail;go_ret;exact⟨-1,rfl,by rw[E.out];rfl,rfl⟩
theorem QcB (A:Option Addr)(c n:Nat)(l:List (List LineP))(f:FuncId)(p:Nat→Bool)(w:World)(hl:Sl w (fun b=>b<w.heap.size) A c l)(hn:l.length=n) (hcf:∀(w':World) (args:Array Value),(callFunc f args).run Tryd.prog w'=.ok (.enter f args) w') (hf:∀(A:Option Addr) (n c:Nat) (w':World),Calls Tryd.prog f #[.slice A n c] w' fun e w''=>e=.returned (.bool (p n))∧w'=w''):
 Calls Tryd.prog 82 #[.slice A n c,.func (.func f) #[] #[]] w fun e w'=>e=.returned (.bool (Qcz p l))∧w=w':=by
 have Hi:=Lh (indexFuncL_any A c n l f p w hl hn hcf hf);clear hl hf hcf;go_enter Tryd.func82,Tryd.ntmps82;go_wp2_with fail;refine Hi.out.mono ?_;rintro e w' ⟨r,rfl,hr,rfl⟩;have Hr:=Lh hr;clear hr;go_wp2_with fail;go_ret;exact⟨Qao Hr.out,rfl⟩
def noneP (n:Nat):Bool:=decide (n=0)
theorem none_any (A:Option Addr)(n c:Nat)(w:World):Calls Tryd.prog 83 #[.slice A n c] w fun e w'=>e=.returned (.bool (noneP n))∧w=w':=by
 go_enter Tryd.func83,Tryd.ntmps83;go_wp2_with fail;go_ret;refine⟨Qao ?_,rfl⟩;unfold noneP;rw[Bool.eq_iff_iff,beq_iff_eq,decide_eq_true_iff];omega
theorem Qcr {w:World}{S:Nat→Prop}{A:Option Addr}{c:Nat}{l:List LineP}(h:Sl w S A c l){k:Nat}(hk:k<l.length):
 ∃b o Ag cg An cn,A=some ⟨b,o,none⟩∧S b∧b<w.heap.size∧w.cell? ⟨b,o+k*4,none⟩=some (.int .i64 l[k].fr)∧w.cell? ⟨b,o+k*4+1,none⟩=some (.int .i64 l[k].un)∧ w.cell? ⟨b,o+k*4+2,none⟩=some (.slice Ag l[k].gaps.length cg)∧w.cell? ⟨b,o+k*4+3,none⟩=some (.slice An l[k].notes.length cn)∧Sl w S Ag cg l[k].gaps∧Sl w S An cn l[k].notes:=by
 obtain⟨b,o,es,rfl,hb,hlt,⟨va,vb,rfl,⟨Ag,cg,e1,hg,_⟩,⟨An,cn,e2,hn,_⟩⟩,hc⟩:=h.at_ hk;cases e1;cases e2;exact⟨b,o,Ag,cg,An,cn,rfl,hb,hlt,hc 0 _ rfl,hc 1 _ rfl,hc 2 _ rfl,hc 3 _ rfl,hg,hn⟩
theorem Qck (n:Nat):∀(l l':List Int) (next:Int),Qa0 n next (l++l')=(Qa0 n next l).bind fun k=>Qa0 n k l'
 |[],_,_=>rfl
 |k::ks,l',next=>by
  rw[List.cons_append,Qa0,Qa0];split
  ·rfl
  ·exact Qck n ks l' _
theorem nextN_step (n:Nat)(l:List Int)(j:Nat)(h:j<l.length)(next:Int):Qa0 n next (l.take (j+1))=(Qa0 n next (l.take j)).bind fun k=>if l[j]≠k∨(n:Int)≤l[j] then none else some (k+1):=by
 rw[qT h,Qck];rfl
theorem refs_step (body:List LineP)(k:Nat)(h:k<body.length):(body.take (k+1)).flatMap (·.notes)=(body.take k).flatMap (·.notes)++body[k].notes:=by
 rw[qT h,List.flatMap_append];simp
set_option maxRecDepth 100000 in
theorem pagecheck_any (A B:Option Addr)(c d:Nat)(body:List LineP)(notes:List (List LineP))(h:Int)(w:World)(ha:Sl w (fun b=>b<w.heap.size) A c body)(hb:Sl w (fun b=>b<w.heap.size) B d notes)(hln:notes.length≤1048576):
 Calls Tryd.prog 66 #[.slice A body.length c,.slice B notes.length d,.int .i64 h] w fun e w'=>e=.returned (.int .i64 (QaQ body notes h))∧Below w.heap.size w w':=by
 have HC:=Lh (QcB B d notes.length notes 83 noneP w hb rfl (fun _ _=>rfl) (fun A n c w'=>none_any A n c w'))
 have HN:Hid (Qcz noneP notes=notes.any (fun l=>decide (l=[]))):=Lh (by
  unfold Qcz noneP
  congr 1
  funext l
  simp[List.length_eq_zero_iff])
 have HA:=Lh ha;have hbl:body.length≤9223372036854775807:=by have:=ha.1;have:=ha.2.1;unfold maxLen at this;omega
 clear ha hb;by_cases h4:h<4
 ·have HE:Hid (QaQ body notes h=5):=Lh (by unfold QaQ;rw[if_pos (.inl h4)]);go_enter Tryd.func66,Tryd.ntmps66;go_wp2_with fail;go_ret;exact⟨by rw[HE.out];rfl,Below.refl _ _⟩
 by_cases h5:100<h
 ·have HE:Hid (QaQ body notes h=5):=Lh (by unfold QaQ;rw[if_pos (.inr h5)]);go_enter Tryd.func66,Tryd.ntmps66;go_wp2_with fail;go_ret;exact⟨by rw[HE.out];rfl,Below.refl _ _⟩
 cases hany:Qcz noneP notes
 ·have HE:Hid (QaQ body notes h=match Qa0 notes.length 0 (body.flatMap (·.notes)) with|none=>12|some k=>if k<notes.length then 3 else 0):=Lh (by
   unfold QaQ
   rw[if_neg (by omega),←HN.out,hany,if_neg (by decide)];rfl)
  rw[hany] at HC;clear hany HN;go_enter Tryd.func66,Tryd.ntmps66;go_wp2_with fail;refine HC.out.mono ?_;rintro e w' ⟨rfl,rfl⟩;clear HC;obtain⟨wo,rfl⟩:∃wo:World,wo=w:=⟨_,rfl⟩;go_wp2_with fail;go_loopw [7,22] (fun vn vi wr=>∃(k:Nat) (nx:Int),k≤body.length∧vi=.int .i64 (k:Int)∧vn=.int .i64 nx∧Hid (Qa0 notes.length 0 ((body.take k).flatMap (·.notes))=some nx)∧0≤nx∧nx≤notes.length∧Hid (Below wo.heap.size wo wr)) (fun _ vi _=>body.length-(intOf vi).toNat);(case atStart=>exact⟨0,0,Nat.zero_le _,rfl,rfl,Lh rfl,Int.le_refl _,by omega,Lh bR⟩);case round=>
   obtain⟨k,nx,hk,rfl,rfl,HX,hn0,hn1,HB⟩:=hrel;by_cases hlt:k<body.length
   ·have hkl:(k:Int)<(body.length:Int):=by omega
    have hk0:(0:Int)≤(k:Int):=(by omega);obtain⟨b,o,Ag,cg,An,cn,rfl,-,hbl2,e0,e1,e2,e3,hgS,hnS⟩:=Qcr (HA.out.to HB.out) hlt;have HRS:=Lh (refs_step body k hlt)
    have HNO:Hid (∀j,Qa0 notes.length 0 ((body.take k).flatMap (·.notes)++(body[k].notes).take j)=none→Qa0 notes.length 0 (body.flatMap (·.notes))=none):=Lh (fun j hj=>by
     have h1:(body.flatMap (·.notes))=((body.take k).flatMap (·.notes)++(body[k].notes).take j)++((body[k].notes).drop j++(body.drop (k+1)).flatMap (·.notes)):=by
      (conv=>lhs;rw[←List.take_append_drop (k+1) body,List.flatMap_append,HRS.out])
      rw[List.append_assoc,List.append_assoc]
      congr 1
      rw[←List.append_assoc,List.take_append_drop]
     rw[h1,Qck,hj];rfl)
    have hba:Below wr.heap.size wr (wr.alloc (.cells #[.int .i64 body[k].fr,.int .i64 body[k].un,.slice Ag body[k].gaps.length cg,.slice An body[k].notes.length cn] 49)):=bR.alloc nL _;have HB2:=Lh (HB.out.trans (hba.mono HB.out.size));have HNS:=Lh (hnS.to hba);have hnl9:body[k].notes.length≤9223372036854775807:=(by have:=hnS.1;have:=hnS.2.1;unfold maxLen at this;omega);generalize body[k]=x at*;clear hba hgS hnS;go_wp2_with fail;generalize World.alloc wr _=w2 at*;go_loopw [7,29] (fun vn vj wr=>∃(j:Nat) (nx:Int),j≤x.notes.length∧vj=.int .i64 (j:Int)∧vn=.int .i64 nx∧Hid (Qa0 notes.length 0 ((body.take k).flatMap (·.notes)++x.notes.take j)=some nx)∧0≤nx∧nx≤notes.length∧wr=w2) (fun _ vj _=>x.notes.length-(intOf vj).toNat);(case atStart=>exact⟨0,nx,Nat.zero_le _,rfl,rfl,Lh (by rw[List.take_zero,List.append_nil];exact HX.out),hn0,hn1,rfl⟩);case round=>
     clear HX hn0 hn1;obtain⟨j,nx,hj,rfl,rfl,HX,hn0,hn1,rfl⟩:=hrel;by_cases hjl:j<x.notes.length
     ·have hjl':(j:Int)<(x.notes.length:Int):=by omega
      have hj0:(0:Int)≤(j:Int):=(by omega);obtain⟨b1,o1,hA1,-,-,hok,ce⟩:=QbK HNS.out hjl;subst hA1;have HTS:=Lh (nextN_step notes.length ((body.take k).flatMap (·.notes)++x.notes) (((body.take k).flatMap (·.notes)).length+j) (by rw[qA];omega) 0)
      have HT2:Hid (Qa0 notes.length 0 ((body.take k).flatMap (·.notes)++x.notes.take (j+1))=if x.notes[j]≠nx∨(notes.length:Int)≤x.notes[j] then none else some (nx+1)):=Lh (by
       have e1:((body.take k).flatMap (·.notes))++x.notes.take (j+1)=((body.take k).flatMap (·.notes)++x.notes.take j)++[x.notes[j]]:=by
        rw[qT hjl,List.append_assoc]
       rw[e1,Qck,HX.out]
       rfl)
      have HNJ:=Lh (HNO.out (j+1));have HOK:=Lh hok;generalize x.notes[j]=q at*;clear hok HTS;by_cases hq:q=nx
      ·subst hq;by_cases hq2:(notes.length:Int)≤q
       ·have HE2:Hid (QaQ body notes h=12):=Lh (by rw[HE.out,HNJ.out (by rw[HT2.out,if_pos (.inr hq2)])]);go_wp2_with fail;go_ret;exact⟨by rw[HE2.out];rfl,HB2.out⟩
       ·have HX2:Hid (Qa0 notes.length 0 ((body.take k).flatMap (·.notes)++x.notes.take (j+1))=some (q+1)):=Lh (by rw[HT2.out,if_neg (by omega)]);have hq3:q<(notes.length:Int):=(by omega);clear HT2 HNJ;go_wp2_with fail;go_roundw;(case rel=>exact⟨j+1,q+1,by omega,by go_num,by go_num,HX2,by omega,by omega,by first|trivial|rfl⟩);case measure=>(first|(simp[intOf];done)|(simp[intOf];omega))
      ·have HE2:Hid (QaQ body notes h=12):=Lh (by rw[HE.out,HNJ.out (by rw[HT2.out,if_pos (.inl hq)])]);have hqb:(q==nx)=false:=(by rw[beq_eq_false_iff_ne];exact hq);go_wp2_with fail;go_ret;exact⟨by rw[HE2.out];rfl,HB2.out⟩
     ·have HX2:Hid (Qa0 notes.length 0 ((body.take (k+1)).flatMap (·.notes))=some nx):=Lh (by rw[HRS.out];have:=HX.out;rwa [List.take_of_length_le (show x.notes.length≤j by omega)] at this);go_wp2_with fail;go_roundw;(case rel=>exact⟨k+1,nx,by omega,by go_num,rfl,HX2,hn0,hn1,HB2⟩);case measure=>(first|(simp[intOf];done)|(simp[intOf];omega))
   ·have HX2:Hid (Qa0 notes.length 0 (body.flatMap (·.notes))=some nx):=Lh (by have:=HX.out;rwa [List.take_of_length_le (by omega)] at this);clear HX;by_cases hnx:nx<(notes.length:Int)
    ·have HE2:Hid (QaQ body notes h=3):=Lh (by rw[HE.out,HX2.out];exact if_pos hnx);go_wp2_with fail;go_ret;exact⟨by rw[HE2.out];rfl,HB.out⟩
    ·have HE2:Hid (QaQ body notes h=0):=Lh (by rw[HE.out,HX2.out];exact if_neg hnx);go_wp2_with fail;go_ret;exact⟨by rw[HE2.out];rfl,HB.out⟩
 ·have HE:Hid (QaQ body notes h=1):=Lh (by unfold QaQ;rw[if_neg (by omega),←HN.out,hany,if_pos rfl]);rw[hany] at HC;clear hany HN;go_enter Tryd.func66,Tryd.ntmps66;go_wp2_with fail;refine HC.out.mono ?_;rintro e w' ⟨rfl,rfl⟩;go_wp2_with fail;go_ret;exact⟨by rw[HE.out];rfl,Below.refl _ _⟩
section
variable {P:Program} {α β:Type} [Rep α] [Rep β]
theorem run_copy_rep (w:World)(dT sT ty e:TypeId)(hu:P.underlying dT=some (.slice e))(hs:(P.info? e).map (·.size)=some (Rep.size α))(g:Nat)(cur:Array Value)(A:Option Addr)(c:Nat)(l:List α) (hl:Sl w (fun b=>b≠g) A c l) (h0:0<l.length) (hg:w.heap[g]? =some (.cells cur e (0,0))) (hcs:cur.size=l.length*Rep.size α) {base:Nat} (hb:base≤g) (hm:l.length≤maxLen):
 ∃w',(Builtin.copy_ #[dT,sT] ty #[.slice (some ⟨g,0,none⟩) l.length l.length,.slice A l.length c]).run P w=.ok (goInt l.length) w'∧Own w' base e (.slice (some ⟨g,0,none⟩) l.length l.length) l∧w.grownBy w' (some g):=by
 obtain⟨b,o,news,rfl,hSb,hlt,hnl,hn1,hnc,hnr⟩:=hl.flat h0;have hfit:0+0+news.length≤cur.size:=by omega
 have hst:=run_storeCells_at P g 0 e news 0 cur w hg (by omega) hn1;have e1:(cur.toList.take (0+0)++news++cur.toList.drop (0+0+news.length)).toArray=news.toArray:=by
  rw[List.drop_of_length_le (by rw[Array.length_toList];omega)];simp
 rw[e1] at hst;have hgr:w.grownBy (w.setRow g news.toArray) (some g):=⟨rfl,rfl,rfl,by simp,fun k _ hk=>setRow_other w g k _ (fun e=>hk (by simp[e]))⟩;refine⟨w.setRow g news.toArray,?_,?_,hgr⟩
 ·cases hq:P.info? e with
  |none=>simp[hq] at hs
  |some i=>
   have hi:i.size=Rep.size α:=(by simpa[hq] using hs);have hf:=run_firstCells_some (P:=P) w i.size l.length ⟨b,o,none⟩ l.length c news (by rw[hi];exact hnl) (fun j u hu=>by rw[Qat];exact hnc j u hu);simp[Builtin.copy_,run_underlying hu,Builtin.lenOf,sizeOf,typeInfo,hq,hf,hst]
 ·refine⟨news,⟨hnl,.inr ⟨g,l.length,news.toArray,rfl,hb,setRow_heap w g cur _ e _ hg,Nat.le_refl _,hm,by simpa using hnl,by simp only[List.take_of_length_le (show(news.toArray.toList).length≤l.length*Rep.size α by simp[hnl])]⟩⟩,hn1,fun i hi=>?_⟩;refine Rep.mono (Rep.keep (hnr i hi) (Kept.grown hgr (fun i hi=>by simpa using hi))) (fun i hi _=>by simpa[Value.ownBlock] using hi)
theorem Qc8 {w:World}{ops:Array Oper}{rest:List Oper}{o:Oper}{a:Act}{Q:Exit→Act→World→Prop}(hgd:o.guard=none)(d s:Operand)(dT sT:TypeId) (ho:o.op=.call {callee:=.builtin .copy,args:=#[d,s],argTypes:=#[dT,sT]}) (e:TypeId) (hu:P.underlying dT=some (.slice e)) (hs:(P.info? e).map (·.size)=some (Rep.size α)) (g n:Nat) (cur:Array Value) (A:Option Addr) (c:Nat) (l:List α) (hn:l.length=n) (hd:a.eval d=.slice (some ⟨g,0,none⟩) n n) (hs2:a.eval s=.slice A n c) (hl:Sl w (fun b=>b≠g) A c l) (h0:0<n) (hg:w.heap[g]? =some (.cells cur e (0,0))) (hcs:cur.size=n*Rep.size α) (base:Nat) (hb:base≤g) (hm:n≤maxLen) (h:∀w',Own w' base e (.slice (some ⟨g,0,none⟩) n n) l→w.grownBy w' (some g)→wpList P ops Q rest (a.put o.dst (goInt n)) w'):wpList P ops Q (o::rest) a w:=
 wpList_plain hgd fun _ hK=>by
  subst hn;obtain⟨w',hrun,h2,h3⟩:=run_copy_rep (P:=P) w dT sT o.type e hu hs g cur A c l hl h0 hg hcs hb hm;unfold Oper.wp execOp;simp only[ho,resolve,invoke,builtin,Sem.run_bind,Sem.run_pure,Result.andThen_ok,List.map_toArray,List.map_cons,List.map_nil,hd,hs2,hrun];exact hK _ _ (h w' h2 h3)
theorem Own.setg {w:World}{base:Nat}{e:TypeId}{g n cap:Nat}{l:List α}(h:Own w base e (.slice (some ⟨g,0,none⟩) n cap) l)(k j:Nat)(hk:k<l.length)(hj:j<Rep.size α)(u:Value)(hu:u.oneCell'=true)(d':α) (hd:∀es,Rep.R w (fun b=>b≠g) es l[k]→Rep.R w (fun b=>b≠g) (es.set j u) d') {o:Nat} (ho:o=k*Rep.size α+j):
 Own (w.setCell ⟨g,o,none⟩ u) base e (.slice (some ⟨g,0,none⟩) n cap) (l.set k d')∧w.grownBy (w.setCell ⟨g,o,none⟩ u) (some g):=by
 subst ho;obtain⟨xs,hx,ho1,hr⟩:=h;obtain rfl:n=l.length:=by
  rcases hx.2 with⟨h1,_⟩|⟨g',cap',cur,h1,_⟩
  ·cases h1
  ·cases h1;rfl
 have hst:=hx.stored (k*Rep.size α+j) u;have hxl:=hx.1;have hkk:(k+1)*Rep.size α≤xs.length:=by rw[hxl];exact Nat.mul_le_mul_right _ hk
 rw[Nat.add_mul,Nat.one_mul] at hkk
 have eS:(fun b=>some b≠(Value.slice (some ⟨g,0,none⟩) l.length cap).ownBlock)=(fun b=>b≠g):=by
  funext b;simp[Value.ownBlock]
 rw[eS] at hr;have kp:Kept (fun b=>b≠g) w (w.setCell ⟨g,k*Rep.size α+j,none⟩ u):=Kept.grown hst.2 (fun i hi=>by simpa using hi);refine⟨⟨xs.set (k*Rep.size α+j) u,by rw[List.length_set];exact hst.1,?_,fun i hi=>?_⟩,hst.2⟩
 ·intro y hy;rcases List.mem_or_eq_of_mem_set hy with h|h
  ·exact ho1 y h
  ·rw[h];exact hu
 ·rw[eS];rw[List.length_set] at hi;rw[List.drop_set,List.getElem_set];by_cases hik:k=i
  ·subst hik;rw[if_neg (by omega),if_pos rfl,Nat.add_sub_cancel_left,List.take_set];exact Rep.keep (hd _ (hr k hi)) kp
  ·rw[if_neg hik];by_cases hlt:k<i
   ·have:(k+1)*Rep.size α≤i*Rep.size α:=Nat.mul_le_mul_right _ hlt;rw[Nat.add_mul,Nat.one_mul] at this;rw[if_pos (by omega)];exact Rep.keep (hr i hi) kp
   ·have:(i+1)*Rep.size α≤k*Rep.size α:=Nat.mul_le_mul_right _ (by omega:i+1≤k);rw[Nat.add_mul,Nat.one_mul] at this;rw[if_neg (by omega),List.take_set,List.set_eq_of_length_le (by rw[qK];omega)];exact Rep.keep (hr i hi) kp
theorem Own.conv {w:World}{base:Nat}{e:TypeId}{v:Value}{l:List β}(h:Own w base e v l)(l':List α)(hl:l'.length=l.length)(hsz:Rep.size α=Rep.size β) (hr:∀i (h1:i<l.length) (h2:i<l'.length) es,Rep.R w (fun b=>some b≠v.ownBlock) es l[i]→Rep.R w (fun b=>some b≠v.ownBlock) es l'[i]):Own w base e v l':=by
 obtain⟨xs,hx,ho,hq⟩:=h;refine⟨xs,by rw[hl,hsz];exact hx,ho,fun i hi=>?_⟩;rw[hsz];exact hr i (by omega) hi _ (hq i (by omega))
end
structure LC where
 fr:Int
 un:Int
 gv:Value
 nv:Value
instance:Rep LC where
 size:=4
 R _ _ cs x:=cs=[.int .i64 x.fr,.int .i64 x.un,x.gv,x.nv]∧x.gv.oneCell'=true∧x.nv.oneCell'=true
 len:=by rintro w S cs s ⟨rfl,_⟩;rfl
 one:=by
  rintro w S cs s ⟨rfl,h1,h2⟩ u hu;simp at hu;rcases hu with rfl|rfl|rfl|rfl
  ·rfl
  ·rfl
  ·exact h1
  ·exact h2
 keep:=by rintro w w' S cs s h _;exact h
 mono:=by rintro w S S' cs s h _;exact h
theorem iclone_any (A:Option Addr)(c n:Nat)(l:List Int)(w:World)(hl:Sl w (fun b=>b<w.heap.size) A c l)(hn:l.length=n)(hsz:n≤1073741824):
 Calls Tryd.prog 84 #[.slice A n c] w fun e w'=>∃v,e=.returned v∧Own w' w.heap.size 3 v l∧Below w.heap.size w w':=by
 have hq:=fun w'=>Lib.run_eql_slice_nil (P:=Tryd.prog) w' 22 3 A n c 0 0 Tryd.underlying22
 cases A with
 |none=>
  have hl0:l=[]:=by
   by_cases h0:0<l.length
   ·obtain⟨b,o,e,_⟩:=hl.2.2 h0;cases e
   ·exact List.eq_nil_of_length_eq_zero (by omega)
  subst hl0;simp only[Option.isNone_none] at hq;go_enter Tryd.func84,Tryd.ntmps84;go_wp2_with fail;go_ret;exact⟨_,rfl,Own.nil _ _ _,Below.refl _ _⟩
 |some a=>
  simp only[Option.isNone_some] at hq;go_enter Tryd.func84,Tryd.ntmps84;go_wp2_with (at_builtin;refine QaF (α:=Int) _ rfl (.tmp 5) (.tmp 6) 22 rfl w.heap.size 3 (.int .i64 0) 8 Tryd.underlying22 QaY rfl (by decide) (.slice (some ⟨w.heap.size,0,none⟩) 0 0) [] rfl (Own.made w _ _ nL) (some a) c n l rfl hn (fun b=>b<w.heap.size) (hl.keep (Kept.all (bR.alloc nL _)) (by simp)) (by intro i (hi:i<w.heap.size) _ e;simp[Value.ownBlock] at e;omega) (by simp;omega) (by simp;omega) (by simp) ?_;intro v2 w2 hown2 hg2 _);go_ret;exact⟨_,rfl,hown2,QaE (bR.alloc nL _) (Own.made (α:=Int) w _ _ nL) (by simp) hg2⟩
def Qbe (l:List LineP):Prop:=∀x∈l,x.gaps.length≤100000∧x.notes.length≤100000
theorem Own.lc {w:World}{base:Nat}{e:TypeId}{v:Value}{l:List LineP}(h:Own w base e v l):
 ∃rows:List LC,rows.length=l.length∧Own w base e v rows∧∀i (h1:i<rows.length) (h2:i<l.length),rows[i].fr=l[i].fr∧rows[i].un=l[i].un:=by
 obtain⟨xs,hx,ho,hr⟩:=id h
 have key:∀n,n≤l.length→∃rows:List LC,rows.length=n∧∀i (h1:i<rows.length) (h2:i<l.length),rows[i].fr=l[i].fr∧rows[i].un=l[i].un∧Rep.R w (fun b=>some b≠v.ownBlock) ((xs.drop (i*4)).take 4) rows[i]:=by
  intro n;induction n with
  |zero=>exact fun _=>⟨[],rfl,fun i h=>absurd h (Nat.not_lt_zero _)⟩
  |succ n ih=>
   intro hn;obtain⟨rows,h1,h2⟩:=ih (by omega);have hrn:=hr n hn;have hone:=Rep.one hrn;obtain⟨va,vb,e1,-,-⟩:=hrn;refine⟨rows++[⟨l[n].fr,l[n].un,va,vb⟩],by rw[qA,h1];rfl,fun i h3 h4=>?_⟩;by_cases hi:i<rows.length
   ·rw[List.getElem_append_left hi];exact h2 i hi h4
   ·obtain rfl:i=n:=by rw[qA,List.length_singleton] at h3;omega
    have e2:(rows++[(⟨l[i].fr,l[i].un,va,vb⟩:LC)])[i]=⟨l[i].fr,l[i].un,va,vb⟩:=(by rw[List.getElem_append_right (by omega)];simp[h1]);rw[e2];refine⟨rfl,rfl,e1,?_,?_⟩
    ·exact hone va (by rw[e1];simp)
    ·exact hone vb (by rw[e1];simp)
 obtain⟨rows,h1,h2⟩:=key l.length nL;exact⟨rows,h1,⟨xs,by rw[h1];exact hx,ho,fun i hi=>(h2 i hi (by omega)).2.2⟩,fun i hi1 hi2=>⟨(h2 i hi1 hi2).1,(h2 i hi1 hi2).2.1⟩⟩
structure CL (W:World)(base g:Nat)(rows:List LC)(l:List LineP)(k:Nat):Prop where
 own:Own W base 49 (.slice (some ⟨g,0,none⟩) l.length l.length) rows
 len:rows.length=l.length
 f:∀i (h1:i<rows.length) (h2:i<l.length),rows[i].fr=l[i].fr∧rows[i].un=l[i].un∧(i<k→Rep.R W (fun b=>base≤b∧b≠g) [rows[i].gv] l[i].gaps∧Rep.R W (fun b=>base≤b∧b≠g) [rows[i].nv] l[i].notes)
section
variable {W W':World} {base g:Nat} {rows:List LC} {l:List LineP} {k:Nat}
theorem CL.to (h:CL W base g rows l k)(hb:Below W.heap.size W W'):CL W' base g rows l k:=
 ⟨h.own.below hb,h.len,fun i h1 h2=>⟨(h.f i h1 h2).1,(h.f i h1 h2).2.1,fun hk=>⟨Rep.keep ((h.f i h1 h2).2.2 hk).1 (Kept.all hb),Rep.keep ((h.f i h1 h2).2.2 hk).2 (Kept.all hb)⟩⟩⟩
theorem CL.cells (h:CL W base g rows l k){i:Nat}(hi:i<l.length)(j:Nat)(hj:j<4):∃u,W.cell? ⟨g,i*4+j,none⟩=some u∧W.frozen? ⟨g,i*4+j,none⟩=false:=by
 obtain⟨g',cap,es,e1,-,-,-,hr,hc,hf⟩:=h.own.at_ (k:=i) (by rw[h.len];exact hi);injection e1 with q1 _ _
 injection q1 with q1
 injection q1 with q1 _ _
 subst q1;have hl:es.length=4:=Rep.len hr;exact⟨es[j],hc j _ (qG (by omega)),hf _⟩
theorem CL.set (h:CL W base g rows l k)(hk:k<l.length){v1 v2:Value}(h1:Rep.R W (fun b=>base≤b∧b≠g) [v1] l[k].gaps)(h2:Rep.R W (fun b=>base≤b∧b≠g) [v2] l[k].notes):
 ∃rows',CL ((W.setCell ⟨g,k*4+2,none⟩ v1).setCell ⟨g,k*4+3,none⟩ v2) base g rows' l (k+1):=by
 have hkr:k<rows.length:=by rw[h.len];exact hk
 have o1:=Rep.one h1 v1 (by simp);have o2:=Rep.one h2 v2 (by simp)
 obtain⟨a1,b1⟩:=h.own.setg k 2 hkr (show 2<4 by omega) v1 o1 {rows[k] with gv:=v1} (fun es he=>by
  obtain⟨rfl,q1,q2⟩:=he
  exact⟨rfl,o1,q2⟩) (o:=k*4+2) rfl
 have hkr2:k<(rows.set k {rows[k] with gv:=v1}).length:=by rw[List.length_set];exact hkr
 obtain⟨a2,b2⟩:=a1.setg k 3 hkr2 (show 3<4 by omega) v2 o2 {rows[k] with gv:=v1,nv:=v2} (fun es he=>by
  rw[List.getElem_set_self] at he
  obtain⟨rfl,q1,q2⟩:=he
  exact⟨rfl,o1,o2⟩) (o:=k*4+3) rfl
 have b3:=grown_trans2 b1 b2;have kp:Kept (fun b=>base≤b∧b≠g) W ((W.setCell ⟨g,k*4+2,none⟩ v1).setCell ⟨g,k*4+3,none⟩ v2):=Kept.grown b3 (fun i hi=>by simpa using hi.2);refine⟨_,a2,by rw[List.length_set,List.length_set];exact h.len,fun i h3 h4=>?_⟩;have h5:i<rows.length:=by rw[h.len];exact h4
 by_cases hik:k=i
 ·subst hik;rw[List.getElem_set_self];exact⟨(h.f k h5 h4).1,(h.f k h5 h4).2.1,fun _=>⟨Rep.keep h1 kp,Rep.keep h2 kp⟩⟩
 ·rw[List.getElem_set_ne hik,List.getElem_set_ne hik];have:=h.f i h5 h4;exact⟨this.1,this.2.1,fun hk2=>⟨Rep.keep (this.2.2 (by omega)).1 kp,Rep.keep (this.2.2 (by omega)).2 kp⟩⟩
theorem CL.done (h:CL W base g rows l l.length):Own W base 49 (.slice (some ⟨g,0,none⟩) l.length l.length) (l.map (Bd.mk:LineP→Bd LineP base)):=by
 have h1:=h.own.conv (α:=Bd LineP base) (l.map Bd.mk) (by rw[qM,h.len]) rfl (fun i h1 h2 es he=>by
  have h3:i<l.length:=(by rw[←h.len];exact h1)
  obtain⟨rfl,-,-⟩:=he
  obtain⟨e1,e2,e3⟩:=h.f i h1 h3
  obtain⟨e4,e5⟩:=e3 h3
  rw[List.getElem_map,e1,e2]
  refine⟨_,_,rfl,Rep.mono e4 (fun b hb _=>⟨?_,hb.1⟩),Rep.mono e5 (fun b hb _=>⟨?_,hb.1⟩)⟩
  ·simpa[Value.ownBlock] using hb.2
  ·simpa[Value.ownBlock] using hb.2)
 exact h1
end
set_option maxRecDepth 100000 in
theorem pclone_any (A:Option Addr)(c n:Nat)(l:List LineP)(w:World)(hl:Sl w (fun b=>b<w.heap.size) A c l)(hn:l.length=n)(hsz:n≤1048576)(hsm:Qbe l):
 Calls Tryd.prog 69 #[.slice A n c] w fun e w'=>∃v,e=.returned v∧Own w' w.heap.size 49 v (l.map (Bd.mk:LineP→Bd LineP w.heap.size))∧Below w.heap.size w w':=by
 subst hn;by_cases h0:l.length=0
 ·obtain rfl:l=[]:=List.eq_nil_of_length_eq_zero h0;clear hsm hsz hl;go_enter Tryd.func69,Tryd.ntmps69;go_wp2_with fail;go_ret;exact⟨_,rfl,Own.nil _ _ _,Below.refl _ _⟩
 have HSL:=Lh hl;have HSMA:=Lh hsm;have h1:((l.length:Int)==0)=false:=by rw[beq_eq_false_iff_ne];omega
 have HN0:=Lh h0;clear hl hsm h0;go_enter Tryd.func69,Tryd.ntmps69;have hba:Below w.heap.size w (w.alloc (.cells (madeCells #[.int .i64 0,.int .i64 0,.slice none 0 0,.slice none 0 0] (l.length*4)) 49)):=bR.alloc nL _;have HBA:=Lh hba;have HSL1:Hid (Sl (w.alloc (.cells (madeCells #[.int .i64 0,.int .i64 0,.slice none 0 0,.slice none 0 0] (l.length*4)) 49)) (fun b=>b≠w.heap.size) A c l):=Lh ((HSL.out.keep (Kept.all hba) hba.size).mono (fun i hi _=>Nat.ne_of_lt hi));clear hba
 go_upto_region 5 with(first|(refine Qby rfl 42 (.tmp 9) (.tmp 9) rfl 49 (.agg #[.int .i64 0,.int .i64 0,.slice none 0 0,.slice none 0 0]) 4 64 Tryd.underlying42 Qcn l.length rfl rfl (by omega) (by omega) ?_)|(refine Qc8 (α:=LineP) rfl (.tmp 11) (.tmp 12) 42 42 rfl 49 Tryd.underlying42 (by kernel_rfl) w.heap.size l.length _ A c l rfl rfl rfl HSL1.out (by have:=HN0.out;omega) (heap_alloc_new w _) (size_madeCells _ _) w.heap.size nL (by unfold maxLen;omega) ?_;intro w2 ho2 hg2)|fail)
 have HB2:Hid (Below w.heap.size w w2):=Lh (HBA.out.grown hg2 (by simp) (fun k hk=>by cases hk;exact Nat.le_refl _));obtain⟨rows,hrl,hro,hrf⟩:=ho2.lc;have HC0:Hid (CL w2 w.heap.size w.heap.size rows l 0):=Lh ⟨hro,hrl,fun i h1 h2=>⟨(hrf i h1 h2).1,(hrf i h1 h2).2,fun h=>absurd h (Nat.not_lt_zero _)⟩⟩;have HGL:Hid (w.heap.size<w2.heap.size):=Lh (by have:=hg2.size;simp at this;omega);clear hrl hro hrf ho2 hg2 HSL1 HBA;obtain⟨g,hg⟩:∃g,w.heap.size=g:=⟨_,rfl⟩;have HGE:=Lh hg;rw[hg] at HC0 HB2 HGL HSL ⊢;clear hg;go_wp2_with fail;go_loopw [16] (fun vi wr=>∃(k:Nat) (rows:List LC),k≤l.length∧vi=.int .i64 (k:Int)∧Hid (CL wr g g rows l k)∧Hid (Below g w wr∧g<wr.heap.size)) (fun vi _=>l.length-(intOf vi).toNat);(case atStart=>exact⟨0,rows,Nat.zero_le _,rfl,HC0,Lh ⟨HB2.out,HGL.out⟩⟩);case round=>
  clear HC0 HB2 HGL;clear rows w2;obtain⟨k,rows,hk,rfl,HCL,HB⟩:=hrel;by_cases hlt:k<l.length
  ·have hkl:(k:Int)<(l.length:Int):=by omega
   have hk0:(0:Int)≤(k:Int):=(by omega);have HSLw:Hid (Sl wr (fun b=>b<g) A c l):=Lh (HSL.out.keep (Kept.below HB.out.1 (fun i hi=>hi)) HB.out.1.size);obtain⟨b,o,Ag,cg,An,cn,hA,hbg,hbl,-,-,e2,e3,hgS,hnS⟩:=Qcr HSLw.out hlt;subst hA;have HG0:Hid (Sl wr (fun b=>b<wr.heap.size) Ag cg l[k].gaps):=Lh (hgS.mono (fun i hi hl=>hl));have HN0:Hid (Sl wr (fun b=>b<wr.heap.size) An cn l[k].notes):=Lh (hnS.mono (fun i hi hl=>hl));have HSM:=Lh (HSMA.out l[k] (List.getElem_mem hlt));have SP:∀W,Below wr.heap.size wr W→W.cell? ⟨b,o+k*4+2,none⟩=some (.slice Ag l[k].gaps.length cg)∧W.cell? ⟨b,o+k*4+3,none⟩=some (.slice An l[k].notes.length cn):=fun W hW=>⟨(hW.cell (p:=⟨b,_,none⟩) hbl).trans e2,(hW.cell (p:=⟨b,_,none⟩) hbl).trans e3⟩
   have SQ:∀W v1 o1,Below wr.heap.size wr W→(W.setCell ⟨g,o1,none⟩ v1).cell? ⟨b,o+k*4+2,none⟩=some (.slice Ag l[k].gaps.length cg)∧(W.setCell ⟨g,o1,none⟩ v1).cell? ⟨b,o+k*4+3,none⟩=some (.slice An l[k].notes.length cn):=fun W v1 o1 hW=>by
    have h:=SP W hW;have hne:b≠g:=Nat.ne_of_lt hbg;exact⟨(World.cell?_of_block (a:=⟨b,_,none⟩) (Qad W g o1 v1 hne)).trans h.1,(World.cell?_of_block (a:=⟨b,_,none⟩) (Qad W g o1 v1 hne)).trans h.2⟩
   have SQ2:∀W v1 o1 v2 o2,Below wr.heap.size wr W→((W.setCell ⟨g,o1,none⟩ v1).setCell ⟨g,o2,none⟩ v2).cell? ⟨b,o+k*4+2,none⟩=some (.slice Ag l[k].gaps.length cg)∧((W.setCell ⟨g,o1,none⟩ v1).setCell ⟨g,o2,none⟩ v2).cell? ⟨b,o+k*4+3,none⟩=some (.slice An l[k].notes.length cn):=fun W v1 o1 v2 o2 hW=>by
    have h:=SQ W v1 o1 hW;have hne:b≠g:=Nat.ne_of_lt hbg;exact⟨(World.cell?_of_block (a:=⟨b,_,none⟩) (Qad _ g o2 v2 hne)).trans h.1,(World.cell?_of_block (a:=⟨b,_,none⟩) (Qad _ g o2 v2 hne)).trans h.2⟩
   have HSP:=Lh SP;have HSQ:=Lh SQ;have HSQ2:=Lh SQ2;have HXS:Hid (∃x,x=l[k]):=Lh ⟨_,rfl⟩;obtain⟨x,hx⟩:∃x,l[k]=x:=⟨_,rfl⟩;rw[hx] at HG0 HN0 HSM HSP HSQ HSQ2;have HX:=Lh hx;have hlc:l.length≤c:=HSLw.out.1;clear SP SQ SQ2 hgS hnS e2 e3 hx HXS;go_upto_region 8 with(fail);refine Qay (fun w'=>w'.cell? ⟨b,o+k*4+2,none⟩=some (.slice Ag x.gaps.length cg)∧w'.cell? ⟨b,o+k*4+3,none⟩=some (.slice An x.notes.length cn)) (fun _=>true) (by kernel_rfl) ?_;have hb0:Hid (Below wr.heap.size wr wr.drew):=Lh bR.drew;generalize wr.drew=W0 at*;refine tE 0 ⟨some 19,Op.move (.tmp 3),42,_,_,_⟩ ?_ rfl ?zq0 ((HSP.out _ hb0.out)) ?zq1;(case zq0=>intro _ s;clear s;go_simp;(try with_reducible rfl));(all_goals try go_frame);refine tE 1 ⟨some 20,Op.move (.tmp 4),3,_,_,_⟩ ?_ rfl ?zq2 ((HSP.out _ hb0.out)) ?zq3;(case zq2=>intro _ s;clear s;go_simp;(try with_reducible rfl));(all_goals try go_frame);refine tE 2 ⟨some 21,Op.move (.tmp 3),42,_,_,_⟩ ?_ rfl ?zq4 ((HSP.out _ hb0.out)) ?zq5;(case zq4=>intro _ s;clear s;go_simp;(try with_reducible rfl));(all_goals try go_frame);refine tE 3 ⟨some 22,Op.move (.tmp 4),3,_,_,_⟩ ?_ rfl ?zq6 ((HSP.out _ hb0.out)) ?zq7;(case zq6=>intro _ s;clear s;go_simp;(try with_reducible rfl));(all_goals try go_frame);refine tE 4 ⟨some 23,Op.move (.tmp 0),42,_,_,_⟩ ?_ rfl ?zq8 ((HSP.out _ hb0.out)) ?zq9;(case zq8=>intro _ s;clear s;go_simp;(try with_reducible rfl));(all_goals try go_frame);refine tE 5 ⟨some 24,Op.move (.tmp 4),3,_,_,_⟩ ?_ rfl ?zq10 ((HSP.out _ hb0.out)) ?zq11;(case zq10=>intro _ s;clear s;go_simp;(try with_reducible rfl));(all_goals try go_frame);refine tE 6 ⟨some 25,Op.indexAddr 42 (.tmp 23) (.tmp 24),0,_,_,_⟩ ?_ rfl ?zq12 ((HSP.out _ hb0.out)) ?zq13;(case zq12=>intro _ s;clear s;go_simp;(try with_reducible rfl));(all_goals try go_frame);refine tE 7 ⟨some 26,Op.fieldAddr 49 (.tmp 25) 2,0,_,_,_⟩ ?_ rfl ?zq14 ((HSP.out _ hb0.out)) ?zq15;(case zq14=>intro _ s;clear s;go_simp;(try with_reducible rfl));(all_goals try go_frame);refine tE 8 ⟨some 27,Op.load 22 (.tmp 26),22,_,_,_⟩ ?_ rfl ?zq16 ((HSP.out _ hb0.out)) ?zq17;(case zq16=>intro wS hSw;(have hq:=hSw.1);clear hSw;go_simp;(try with_reducible rfl));(all_goals try go_frame);refine tE 10 ⟨some 29,Op.move (.tmp 0),42,_,_,_⟩ ?_ rfl ?zq18 ((HSP.out _ hb0.out)) ?zq19;(case zq18=>intro _ s;clear s;go_simp;(try with_reducible rfl));(all_goals try go_frame);refine tE 11 ⟨some 30,Op.move (.tmp 4),3,_,_,_⟩ ?_ rfl ?zq20 ((HSP.out _ hb0.out)) ?zq21;(case zq20=>intro _ s;clear s;go_simp;(try with_reducible rfl));(all_goals try go_frame);refine tE 12 ⟨some 31,Op.indexAddr 42 (.tmp 29) (.tmp 30),0,_,_,_⟩ ?_ rfl ?zq22 ((HSP.out _ hb0.out)) ?zq23;(case zq22=>intro _ s;clear s;go_simp;(try with_reducible rfl));(all_goals try go_frame);refine tE 13 ⟨some 32,Op.fieldAddr 49 (.tmp 31) 3,0,_,_,_⟩ ?_ rfl ?zq24 ((HSP.out _ hb0.out)) ?zq25;(case zq24=>intro _ s;clear s;go_simp;(try with_reducible rfl));(all_goals try go_frame);refine tE 14 ⟨some 33,Op.load 22 (.tmp 32),22,_,_,_⟩ ?_ rfl ?zq26 ((HSP.out _ hb0.out)) ?zq27;(case zq26=>intro wS hSw;(have hq:=hSw.2);clear hSw;go_simp;(try with_reducible rfl));(all_goals try go_frame);refine tD 9 ⟨some 28,Op.call {callee:=Callee.value (Operand.func 84),args:=#[Operand.tmp 27],argTypes:=#[22]},22,_,_,_⟩ rfl fun K hK=>?_
   go_simp;go_at_call 84;refine(iclone_any Ag cg x.gaps.length x.gaps W0 (HG0.out.to hb0.out) rfl (by have:=HSM.out.1;omega)).mono ?_;rintro e W1 ⟨v1,rfl,ho1,hb1⟩;obtain⟨A1,c1,rfl,-⟩:=ho1.form;have HR1:Hid (Rep.R W1 (fun b=>g≤b∧b≠g) [.slice A1 x.gaps.length c1] x.gaps):=Lh (QcT ho1 rfl (fun b hb=>by have:=HB.out.2;have:=hb0.out.size;omega));have hbb:=Lh (hb0.out.trans (hb1.mono hb0.out.size));have HZ1:=Lh hb1.size;clear ho1 hb1;go_simp;refine hK _ _ (fun _=>?_) ?_
   ·exact(HSP.out _ hbb.out)
   clear hK K;(try go_frame);refine tD 15 ⟨some 34,Op.call {callee:=Callee.value (Operand.func 84),args:=#[Operand.tmp 33],argTypes:=#[22]},22,_,_,_⟩ rfl fun K hK=>?_
   go_simp;go_at_call 84;refine(iclone_any An cn x.notes.length x.notes W1 (HN0.out.to hbb.out) rfl (by have:=HSM.out.2;omega)).mono ?_;rintro e W2 ⟨v2,rfl,ho2,hb2⟩;obtain⟨A2,c2,rfl,-⟩:=ho2.form;have HR2:Hid (Rep.R W2 (fun b=>g≤b∧b≠g) [.slice A2 x.notes.length c2] x.notes):=Lh (QcT ho2 rfl (fun b hb=>by have:=HB.out.2;have:=hbb.out.size;omega));have HR1b:=Lh (Rep.keep HR1.out (Kept.all hb2));have hbz:=Lh (hbb.out.trans (hb2.mono hbb.out.size));have HZ2:=Lh hb2.size;clear ho2 hb2 HR1;go_simp;refine hK _ _ (fun _=>?_) ?_
   ·exact(HSP.out _ hbz.out)
   clear hK K;(try go_frame);refine tE 16 ⟨some 35,Op.indexAddr 42 (.tmp 19) (.tmp 20),0,_,_,_⟩ ?_ rfl ?zq28 ((HSP.out _ hbz.out)) ?zq29;(case zq28=>intro _ s;clear s;go_simp;(try with_reducible rfl));(all_goals try go_frame);refine tE 17 ⟨some 36,Op.fieldAddr 49 (.tmp 35) 2,0,_,_,_⟩ ?_ rfl ?zq30 ((HSP.out _ hbz.out)) ?zq31;(case zq30=>intro _ s;clear s;go_simp;(try with_reducible rfl));(all_goals try go_frame);refine tD 18 ⟨none,Op.store 22 (.tmp 36) (.tmp 28),0,_,_,_⟩ rfl fun K hK=>?_
   have HCLz:=Lh (HCL.out.to hbz.out);obtain⟨u1,hu1,hf1⟩:=HCLz.out.cells hlt 2 (by omega);go_simp;refine hK _ _ (fun _=>?_) ?_
   ·exact(HSQ.out _ _ _ hbz.out)
   clear hK K;(try simp only[Act.put]);refine tE 19 ⟨some 37,Op.indexAddr 42 (.tmp 21) (.tmp 22),0,_,_,_⟩ ?_ rfl ?zq32 ((HSQ.out _ _ _ hbz.out)) ?zq33;(case zq32=>intro _ s;clear s;go_simp;(try with_reducible rfl));(all_goals try go_frame);refine tE 20 ⟨some 38,Op.fieldAddr 49 (.tmp 37) 3,0,_,_,_⟩ ?_ rfl ?zq34 ((HSQ.out _ _ _ hbz.out)) ?zq35;(case zq34=>intro _ s;clear s;go_simp;(try with_reducible rfl));(all_goals try go_frame);refine tD 21 ⟨none,Op.store 22 (.tmp 38) (.tmp 34),0,_,_,_⟩ rfl fun K hK=>?_
   obtain⟨u2,hu2,hf2⟩:=HCLz.out.cells hlt 3 (by omega);have hu3:(W2.setCell ⟨g,k*4+2,none⟩ (.slice A1 x.gaps.length c1)).cell? ⟨g,k*4+3,none⟩=some u2:=(World.cell?_setCell_other _ _ _ _ (by intro h;injection h with _ h;omega)).trans hu2;have hf3:(W2.setCell ⟨g,k*4+2,none⟩ (.slice A1 x.gaps.length c1)).frozen? ⟨g,k*4+3,none⟩=false:=(World.frozen?_setCell _ _ _ _).trans hf2;go_simp;refine hK _ _ (fun _=>?_) ?_
   ·exact(HSQ2.out _ _ _ _ _ hbz.out)
   clear hK K;(try simp only[Act.put]);refine Qam (by kernel_rfl) ?_ _;obtain⟨rows',hcl'⟩:=HCLz.out.set hlt (v1:=.slice A1 x.gaps.length c1) (v2:=.slice A2 x.notes.length c2) (by rw[HX.out];exact HR1b.out) (by rw[HX.out];exact HR2.out);have HCL2:=Lh hcl';have HB3:Hid (Below g w ((W2.setCell ⟨g,k*4+2,none⟩ (.slice A1 x.gaps.length c1)).setCell ⟨g,k*4+3,none⟩ (.slice A2 x.notes.length c2))∧g<((W2.setCell ⟨g,k*4+2,none⟩ (.slice A1 x.gaps.length c1)).setCell ⟨g,k*4+3,none⟩ (.slice A2 x.notes.length c2)).heap.size):=Lh ⟨((HB.out.1.trans (hbz.out.mono (by have:=HB.out.2;omega))).setCell (p:=⟨g,k*4+2,none⟩) nL _).setCell (p:=⟨g,k*4+3,none⟩) nL _,by have:=HB.out.2;have:=hbz.out.size;simp;omega⟩;clear hcl' hu2 hf2 hu3 hf3 HCLz;unfold Exit.then;go_wp2_with fail;go_roundw;(case rel=>exact⟨k+1,rows',by omega,by go_num,HCL2,HB3⟩);case measure=>(first|(simp[intOf];done)|(simp[intOf];omega))
  ·have HD:Hid (Own wr w.heap.size 49 (.slice (some ⟨g,0,none⟩) l.length l.length) (l.map (Bd.mk:LineP→Bd LineP w.heap.size))):=Lh (by
    have h:=HCL.out
    rw[show k=l.length by omega] at h
    have h2:=h.done
    rwa [←HGE.out] at h2 ⊢)
   have HB9:Hid (Below w.heap.size w wr):=Lh (by have:=HB.out.1;rwa [←HGE.out] at this);go_wp2_with fail;go_ret;exact⟨_,rfl,HD.out,HB9.out⟩
theorem wp_region_calm {P:Program}{id:Nat}{Q:Exit→Act→World→Prop}{a:Act}{w:World}{l:List Oper}(hm:P.follows .mixedOrders=true)(hB:Region.lexB .any l.toArray=true)
 (h:∀(T:Type) (_:Nonempty T) (f:T→World),(∀d,Below w.heap.size w (f d))→(∀d w',Below (f d).heap.size (f d) w'→∃m,w'=f m)→ wpQuiet P l.toArray (fun w'=>∃n,w'=f n) (fun a'=>∀w',(∃n,w'=f n)→Q .normal a' w') l a):(Code.region id l.toArray true).wp P Q a w:=by
 refine wp_region_quiet (C:=fun w'=>∃n,w'=(Subtype.val:{x:World // Below w.heap.size w x}→World) n) hm hB ⟨⟨_,(Below.refl _ w).drew⟩,rfl⟩ ?_;rw[List.toList_toArray];exact h _ ⟨⟨_,(Below.refl _ w).drew⟩⟩ Subtype.val (fun d=>d.2) (fun d w' hb=>⟨⟨w',d.2.trans (hb.mono d.2.size)⟩,rfl⟩)
section
variable {P:Program} {α:Type} [Rep α]
theorem run_freshC (w:World)(t ty e:TypeId)(z:Value)(bytes:Nat)(ht:P.underlying t=some (.slice e))(hinfo:(P.info? e).map (fun i=>(i.zero,i.size,i.bytes))=some (some z,Rep.size α,bytes)) (hzs:z.cells.size=Rep.size α) (hsz:0<Rep.size α) (A:Option Addr) (n k:Nat) (l:List α) (hn:l.length=n) (hl:Sl w (fun b=>b<w.heap.size) A k l) (hA:A=none→k=0) (A':Option Addr) (c m:Nat) (l':List α) (hm:l'.length=m) (hl':Sl w (fun b=>b<w.heap.size) A' c l') (h0:k<n+m) (hbytes:(n+m)*bytes≤140737488355328) (hml:n+m≤9223372036854775807):
 ∃v' w',(Builtin.append_ #[t,t] ty #[.slice A n k,.slice A' m c]).run P w=.ok v' w'∧Own w' w.heap.size e v' (l++l')∧Below w.heap.size w w'∧v'.ownBlock=some w.heap.size:=by
 obtain⟨i,hi,hz,hz1,hz2⟩:=info_parts hinfo;subst hn;subst hm;have hnk:=hl.1;have hm0:0<l'.length:=by omega
 obtain⟨b',o',news,rfl,hSb',hlt',hnl',hn1',hnc',hnr'⟩:=hl'.flat hm0
 have key:∀olds:List Value,olds.length=l.length*Rep.size α→(∀u∈olds,u.oneCell'=true)→(∀i,(h:i<l.length)→Rep.R w (fun b=>b<w.heap.size) ((olds.drop (i*Rep.size α)).take (Rep.size α)) l[i])→ ∀v' w',w'.ownsRow w.heap.size e (Rep.size α) v' (l.length+l'.length) (olds++news)→w.grownBy w' none→(v'.ownBlock=none∨v'.ownBlock=some w.heap.size)→Own w' w.heap.size e v' (l++l')∧Below w.heap.size w w':=by
  intro olds ho1 ho2 ho3 v' w' hw hg hat;have hb:Below w.heap.size w w':=⟨hg.os,hg.tape,hg.output,hg.size,fun k hk=>hg.block k hk (by simp)⟩;refine⟨?_,hb⟩;have hx:=Own.more (w:=w) (w':=w') (base:=w.heap.size) (e:=e) (v:=.slice none 0 0) (v':=v') (l:=([]:List α)) (m:=l++l') (news:=olds++news) (H:=w.heap.size) (Own.nil _ _ _)
   (fun xs hx=>by
     have:xs=[]:=List.eq_nil_of_length_eq_zero (by rw[hx.1];simp)
     subst this
     simpa using hw) hg hat nL
   (fun u hu=>(List.mem_append.1 hu).elim (ho2 u) (hn1' u)) (by rw[qA,qA,ho1,hnl',Nat.add_mul])
   (fun i hi=>by
     refine Rep.mono (S:=fun b=>b<w.heap.size) ?_ (fun j _ _=>by simp[Value.ownBlock])
     by_cases hil:i<l.length
     ·have e:(i+1)*Rep.size α≤olds.length:=by rw[ho1];exact Nat.mul_le_mul_right _ hil
      rw[Nat.add_mul,Nat.one_mul] at e
      rw[List.drop_append_of_le_length (by omega),List.take_append_of_le_length (by rw[List.length_drop];omega),List.getElem_append_left hil]
      exact ho3 i hil
     ·have him:i-l.length<l'.length:=by rw[qA] at hi;omega
      have e:i*Rep.size α=olds.length+(i-l.length)*Rep.size α:=by
       rw[ho1,←Nat.add_mul];congr 1;omega
      rw[List.getElem_append_right (by omega),List.drop_append,List.drop_of_length_le (by omega),List.nil_append,e,Nat.add_sub_cancel_left]
      exact hnr' _ him)
  rwa [List.nil_append] at hx
 have grow:∀(ad:Addr) (olds:List Value),olds.length=l.length*Rep.size α→(∀j u,olds[j]? =some u→w.cell? (ad.add j)=some u)→(∀u∈olds,u.oneCell'=true)→(∀i,(h:i<l.length)→Rep.R w (fun b=>b<w.heap.size) ((olds.drop (i*Rep.size α)).take (Rep.size α)) l[i])→ ∃v' w',(Builtin.append_ #[t,t] ty #[.slice (some ad) l.length k,.slice (some ⟨b',o',none⟩) l'.length c]).run P w=.ok v' w'∧Own w' w.heap.size e v' (l++l')∧Below w.heap.size w w'∧v'.ownBlock=some w.heap.size:=by
  intro ad olds hol hoc ho1 hor;obtain⟨v',w',hrun,h2,h3⟩:=run_append_arg_grows (P:=P) w t ty e i z (Rep.size α) bytes ht hi hz hz1 hz2 hzs hsz ad l.length k olds hol hoc ⟨b',o',none⟩ l'.length c news hnl' (fun j u hu=>by rw[Qat];exact hnc' j u hu) h0 (by simp only[maxLen];omega) hbytes
  have e2:v'.ownBlock=some w.heap.size:=by
   have e1:=hrun;rw[run_append_grow (P:=P) w t ty e i z ht hi hz ad l.length k olds (by rw[hz1];exact hol) hoc ⟨b',o',none⟩ l'.length c news (by rw[hz1];exact hnl') (fun j u hu=>by rw[Qat];exact hnc' j u hu) h0 (by omega) (by rw[hz2];exact growslice_fits h0 hbytes)] at e1;cases e1;rfl
  have h4:=key olds hol ho1 hor v' w' h2 h3 (.inr e2);exact⟨v',w',hrun,h4.1,h4.2,e2⟩
 by_cases h1:0<l.length
 ·obtain⟨b,o,olds,rfl,hSb,hlt,hol,ho1,hoc,hor⟩:=hl.flat h1;exact grow _ olds hol (fun j u hu=>by rw[Qat];exact hoc j u hu) ho1 hor
 ·have h1':l.length=0:=by omega
  obtain rfl:l=[]:=List.eq_nil_of_length_eq_zero h1';rcases A with _|ad
  ·obtain rfl:=hA rfl;obtain⟨v',w',hrun,h2,h3,_,h5⟩:=run_append_own_at (P:=P) w w.heap.size t ty e i z (Rep.size α) bytes ht hi hz hz1 hz2 hzs hsz (.slice none 0 0) 0 [] (World.ownsRow_nil _ _ _ _) ⟨b',o',none⟩ l'.length c news hnl' (fun j u hu=>by rw[Qat];exact hnc' j u hu) hn1' (by simp only[maxLen];omega) (by simpa using hbytes) nL
   have h4:=key [] (by simp) (by simp) (fun i hi=>absurd hi (by simp)) v' w' (by simpa using h2) h3 h5;refine⟨v',w',hrun,h4.1,h4.2,?_⟩;rcases h5 with h5|h5
   ·obtain⟨A2,c2,e2,-,hlc,-⟩:=h4.1.form;subst e2;cases A2 with
    |none=>
     obtain⟨xs,hx,-⟩:=h4.1;rcases hx.2 with⟨q1,q2⟩|⟨g,cap,cur,q1,_⟩
     ·simp at q2;simp[q2] at hm0
     ·cases q1
    |some a2=>exact absurd h5 (by simp[Value.ownBlock])
   ·exact h5
  ·exact grow ad [] (by simp) (fun j u hu=>by simp at hu) (by simp) (fun i hi=>absurd hi (by simp))
def Que (w:World)(base:Nat)(e:TypeId)(ob:Option Nat)(v:Value)(l:List α):Prop:=
 (∃(pre:List α) (g c:Nat),ob=some g∧pre.length<c∧Own w base e (.slice (some ⟨g,0,none⟩) (pre++l).length c) (pre++l)∧v=.slice (some ⟨g,pre.length*Rep.size α,none⟩) l.length (c-pre.length))∨
 (l=[]∧ob=none∧∃A,v=.slice A 0 0)
theorem Que.nil (w:World)(base:Nat)(e:TypeId):Que w base e none (.slice none 0 0) ([]:List α):=.inr ⟨rfl,rfl,_,rfl⟩
theorem Que.len {w:World}{base:Nat}{e:TypeId}{ob:Option Nat}{v:Value}{l:List α}(h:Que w base e ob v l):∃A c,v=.slice A l.length c∧Sl w (fun b=>b<w.heap.size) A c l∧(A=none→c=0):=by
 rcases h with⟨pre,g,c,rfl,hlt,ho,rfl⟩|⟨rfl,rfl,A,rfl⟩
 ·refine⟨_,_,rfl,?_,by simp⟩;obtain⟨A',c',e',hs⟩:=ho.sl;cases e';have hd:=hs.drop pre.length (by simp);rw[if_neg (by omega)] at hd;simpa[Qat] using hd
 ·exact⟨A,0,rfl,Sl.nil _ _ _ _ (Nat.zero_le _),fun _=>rfl⟩
theorem Que.kept {w w':World}{base:Nat}{e:TypeId}{ob:Option Nat}{v:Value}{l:List α}(h:Que w base e ob v l)(hk:∀i,i<w.heap.size→w'.heap[i]? =w.heap[i]?):Que w' base e ob v l:=by
 rcases h with⟨pre,g,c,rfl,hlt,ho,rfl⟩|⟨rfl,rfl,A,rfl⟩
 ·exact .inl ⟨pre,g,c,rfl,hlt,ho.kept hk,rfl⟩
 ·exact .inr ⟨rfl,rfl,A,rfl⟩
theorem Que.below {w w':World}{base:Nat}{e:TypeId}{ob:Option Nat}{v:Value}{l:List α}(h:Que w base e ob v l)(hb:Below w.heap.size w w'):Que w' base e ob v l:=h.kept hb.block
theorem Que.lt {w:World}{base:Nat}{e:TypeId}{ob:Option Nat}{v:Value}{l:List α}(h:Que w base e ob v l):∀k,ob=some k→base≤k∧k<w.heap.size:=by
 rcases h with⟨pre,g,c,rfl,hlt,ho,rfl⟩|⟨rfl,rfl,A,rfl⟩
 ·intro k hk;cases hk;exact ho.lt g rfl
 ·intro k hk;cases hk
theorem Que.cut {w:World}{base:Nat}{e:TypeId}{ob:Option Nat}{l:List α}{A:Option Addr}{n c:Nat}(h:Que w base e ob (.slice A n c) l){k:Nat}(hk:k≤l.length):
 ∃ob',(ob'=none∨ob'=ob)∧Que w base e ob' (.slice (if c=k then A else A.map (·.add (k*Rep.size α))) (n-k) (c-k)) (l.drop k):=by
 rcases h with⟨pre,g,c0,rfl,hlt,ho,hv⟩|⟨rfl,rfl,A,hv⟩
 ·injection hv with h1 h2 h3
  subst h1 h2 h3;obtain⟨_,_,e1,-,hlc,-⟩:=ho.form;injection e1 with _ _ e3
  rw[←e3,qA] at hlc;by_cases hck:c0-pre.length=k
  ·refine⟨none,.inl rfl,.inr ⟨List.drop_of_length_le (by omega),rfl,_,by rw[show l.length-k=0 by omega,show c0-pre.length-k=0 by omega]⟩⟩
  ·refine⟨some g,.inr rfl,.inl ⟨pre++l.take k,g,c0,rfl,?_,?_,?_⟩⟩
   ·rw[qA,qK];omega
   ·rw[List.append_assoc,List.take_append_drop];exact ho
   ·rw[if_neg hck,qA,qK,List.length_drop,Nat.min_eq_left hk,Nat.add_mul];simp only[Option.map_some,Qat,Nat.sub_sub]
 ·injection hv with h1 h2 h3
  subst h1 h2 h3;obtain rfl:k=0:=by simpa using hk
  exact⟨none,.inl rfl,.inr ⟨rfl,rfl,A,rfl⟩⟩
theorem run_que (w:World)(base:Nat)(t ty e:TypeId)(z:Value)(bytes:Nat)(ht:P.underlying t=some (.slice e))(hinfo:(P.info? e).map (fun i=>(i.zero,i.size,i.bytes))=some (some z,Rep.size α,bytes)) (hzs:z.cells.size=Rep.size α) (hsz:0<Rep.size α) (ob:Option Nat) (v:Value) (l:List α) (hown:Que w base e ob v l) (A:Option Addr) (c n:Nat) (m:List α) (hn:m.length=n) (S:Nat→Prop) (hm:Sl w S A c m) (hS:∀i,S i→i<w.heap.size→some i≠ob) (hS2:∀i,S i→i<w.heap.size) (hbytes:(l.length+n)*bytes≤140737488355328) (hml:l.length+n≤9223372036854775807) (hbase:base≤w.heap.size):
 ∃v' w' ob',(Builtin.append_ #[t,t] ty #[v,.slice A n c]).run P w=.ok v' w'∧Que w' base e ob' v' (l++m)∧w.grownBy w' ob∧(ob'=ob∨ob'=some w.heap.size):=by
 obtain⟨i,hi,hz,hz1,hz2⟩:=info_parts hinfo;subst hn;obtain⟨A0,k0,rfl,hs0,hA0⟩:=hown.len;by_cases h0:k0<l.length+m.length
 ·obtain⟨v',w',h1,h2,h3,h4⟩:=run_freshC (P:=P) w t ty e z bytes ht hinfo hzs hsz A0 l.length k0 l rfl hs0 hA0 A c m.length m rfl (hm.mono fun i hi _=>hS2 i hi) h0 hbytes hml;refine⟨v',w',some w.heap.size,h1,?_,⟨h3.os,h3.tape,h3.output,h3.size,fun k hk _=>h3.block k hk⟩,.inr rfl⟩;have h5:=h2.re hbase;obtain⟨A2,c2,rfl,-,hlc,-⟩:=h5.form;cases A2 with
  |none=>exact absurd h4 (by simp[Value.ownBlock])
  |some a2=>
   obtain⟨xs,hx,-⟩:=id h5;rcases hx.2 with⟨q1,_⟩|⟨g,cap,cur,q1,_⟩
   ·cases q1
   ·cases q1;simp only[Value.ownBlock,Option.some.injEq] at h4;subst h4;exact .inl ⟨[],_,c2,rfl,by rw[qA] at hlc;rw[List.length_nil];omega,h5,by simp⟩
 ·by_cases hm0:0<m.length
  ·rcases id hown with⟨pre,g,cc,rfl,hlt,ho,hv⟩|⟨rfl,rfl,_,hv⟩
   ·injection hv with e1 e2 e3
    subst e1 e3;obtain⟨b,o,news,rfl,hSb,hltb,hnl,hn1,hnc,hnr⟩:=hm.flat hm0;have hbig:(pre++l).length+m.length≤cc:=(by rw[qA];omega);obtain⟨xs,hx,ho1,hr⟩:=id ho;obtain⟨w',hrun,hx2,hg⟩:=run_append_fits (P:=P) w base t ty e i (Rep.size α) ht hi hz1 g (pre++l).length cc xs hx ⟨b,o,none⟩ m.length c news hnl (fun j u hu=>by rw[Qat];exact hnc j u hu) hn1 hbig;rcases id hx.2 with⟨q1,_⟩|⟨g',cap,cur,q1,hbg,hgg,hnc2,hcm,hcs,hcx⟩
    ·cases q1
    ·injection q1 with q1 q2 q3
     injection q1 with q1
     injection q1 with q1
     subst q1 q3;have hfz:∀j,w.frozen? ⟨g,j,none⟩=false:=fun j=>by simp[World.frozen?,hgg]
     have hcell:∀j,j<(pre++l).length*Rep.size α+news.length→(w.cell? ⟨g,j,none⟩).isSome=true:=fun j hj=>by
      rw[cell_of_row w g j cur e (0,0) hgg];have:j<cur.size:=by
       have:=Nat.mul_le_mul_right (Rep.size α) hbig;rw[Nat.add_mul,←hnl] at this;omega
      rw[Array.getElem?_eq_getElem this];rfl
     have ea:pre.length*Rep.size α+l.length*Rep.size α=(pre++l).length*Rep.size α:=by rw[qA,Nat.add_mul]
     have h1:=run_append_room_cells (P:=P) w t ty e i ht hi g 0 (pre++l).length cc ⟨b,o,none⟩ m.length c news (by rw[hz1];exact hnl) (fun j u hu=>by rw[Qat];exact hnc j u hu) hn1 hbig (fun j hj=>hcell _ (by rw[hz1];omega)) (fun j _=>hfz _)
     have h2:=run_append_room_cells (P:=P) w t ty e i ht hi g (pre.length*Rep.size α) l.length (cc-pre.length) ⟨b,o,none⟩ m.length c news (by rw[hz1];exact hnl) (fun j u hu=>by rw[Qat];exact hnc j u hu) hn1 (by omega) (fun j hj=>hcell _ (by rw[hz1,ea];omega)) (fun j _=>hfz _)
     rw[h1] at hrun;cases hrun;rw[hz1] at h2 hx2 hg;rw[Nat.zero_add] at hx2 hg;rw[ea] at h2;refine⟨_,_,some g,h2,.inl ⟨pre,g,cc,rfl,by omega,?_,by rw[@qA _ l]⟩,hg,.inl rfl⟩;have e3:pre++(l++m)=(pre++l)++m:=(List.append_assoc _ _ _).symm;rw[e3];have hmore:=Own.more (m:=m) (news:=news) (H:=w.heap.size) (v':=.slice (some ⟨g,0,none⟩) ((pre++l).length+m.length) cc) ho (fun ys hy=>?_) hg (.inl rfl) nL hn1 hnl (fun i hi=>Rep.mono (hnr i hi) (fun b hb hl=>hS b hb hl))
     ·have e4:((pre++l)++m).length=(pre++l).length+m.length:=qA;rw[e4];exact hmore
     ·have e4:((pre++l)++m).length=(pre++l).length+m.length:=qA;rw[e4];obtain rfl:xs=ys:=by
       rcases hy.2 with⟨q1,q2⟩|⟨g2,c2,cu2,q1,_,q3,_,_,_,q4⟩
       ·cases q1
       ·cases q1;rw[hgg] at q3;cases q3;rw[←hcx,←q4]
      exact hx2
   ·injection hv with _ _ e3
    rw[List.length_nil] at h0;omega
  ·obtain rfl:m=[]:=List.eq_nil_of_length_eq_zero (by omega);refine⟨_,w,ob,?_,by simpa using hown,World.grownBy.refl _ _,.inl rfl⟩;have hle:l.length≤k0:=hs0.1;rcases A0 with _|a0<;>rcases A with _|a<;>simp[Builtin.append_,run_underlying ht,sizeOf,typeInfo,hi,Builtin.lenOf,Builtin.firstCells,loadCells,loadCellsFrom,storeCells,hle]
end
end Go.Proofs.YtegaapiocihcpaaDoor
