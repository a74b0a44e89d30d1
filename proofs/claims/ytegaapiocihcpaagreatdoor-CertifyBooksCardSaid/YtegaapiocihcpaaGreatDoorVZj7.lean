/- Texts of CbC. -/
import Derived.Test.YtegaapiocihcpaaGreatDoorVZj6
import Derived.Laws.MakeOwn
import Derived.Deep.CutRange
import Derived.WalkMore
import Derived.Deep.CutBlock
import Derived.Laws.CopyOwn
set_option maxHeartbeats 16000000
namespace Go.Proofs.YtegaapiocihcpaaGreatDoor
open Go.RowKit
theorem Qel {P:Program}{o:Oper}{a:Act}{w:World}{K:Act→World→Prop}{Q:Exit→Act→World→Prop}(t:TypeId)(x y:Operand)(ho:o.op=.makeSlice t x y)(e:TypeId)(z:Value)(size bytes:Nat) (ht:P.underlying t=some (.slice e)) (hinfo:(P.info? e).map (fun i=>(i.zero,i.size,i.bytes))=some (some z,size,bytes)) (n:Nat) (hx:a.eval x=.int .i64 (n:Int)) (hy:a.eval y=.int .i64 (n:Int)) (hb:n*bytes≤140737488355328) (h63:n≤9223372036854775807) (h:K (a.put o.dst (.slice (some ⟨w.heap.size,0,none⟩) n n)) (w.alloc (.cells (madeCells z.cells (n*size)) e))):o.wp P a w K Q:=by
 obtain⟨i,hi,hz,hsz,hbz⟩:=info_parts hinfo;have hb':(i.bytes:Int)*(n:Int)≤281474976710656:=by
  rw[hbz];have h:((bytes*n:Nat):Int)≤281474976710656:=(by rw[Nat.mul_comm];omega);rwa [Int.natCast_mul] at h
 have hr:=run_make (P:=P) w t e i z ht hi hz .i64 .i64 n n (by omega) (Int.le_refl _) hb' (by omega);simp only[Int.toNat_natCast,hsz] at hr;unfold Oper.wp execOp;simp only[ho,hx,hy,Sem.run_bind,hr,Result.andThen_ok,Sem.run_pure];exact h
theorem Qbq {P:Program}{ops:Array Oper}{rest:List Oper}{o:Oper}{a:Act}{w:World}{Q:Exit→Act→World→Prop}(hgd:o.guard=none)(t:TypeId)(x y:Operand)(ho:o.op=.makeSlice t x y)(e:TypeId)(z:Value)(size bytes:Nat) (ht:P.underlying t=some (.slice e)) (hinfo:(P.info? e).map (fun i=>(i.zero,i.size,i.bytes))=some (some z,size,bytes)) (n:Nat) (hx:a.eval x=.int .i64 (n:Int)) (hy:a.eval y=.int .i64 (n:Int)) (hb:n*bytes≤140737488355328) (h63:n≤9223372036854775807) (h:wpList P ops Q rest (a.put o.dst (.slice (some ⟨w.heap.size,0,none⟩) n n)) (w.alloc (.cells (madeCells z.cells (n*size)) e))):wpList P ops Q (o::rest) a w:=
 wpList_plain hgd fun _ hK=>Qel t x y ho e z size bytes ht hinfo n hx hy hb h63 (hK _ _ h)
theorem made_ints (n:Nat):madeCells (Value.int .i64 0).cells (n*1)=((List.replicate n (0:Int)).map (Value.int .i64)).toArray:=by
 apply Array.ext';unfold madeCells;rw[Nat.mul_one];apply List.ext_getElem?;intro i;simp only[Value.cells,List.getElem?_map,List.getElem?_replicate,Array.toList_map,Array.toList_range];by_cases h:i<n
 ·rw[List.getElem?_range h,if_pos h];simp[Nat.mod_one]
 ·rw[List.getElem?_eq_none (by simpa using h),if_neg h];rfl
theorem irow_made (w:World)(n:Nat)(t:TypeId):IRow (w.alloc (.cells (madeCells (Value.int .i64 0).cells (n*1)) t)) w.heap.size t (List.replicate n 0):=by
 rw[made_ints];exact heap_alloc_new w _
theorem Qbf:(Tryz.prog.info? 3).map (fun i=>(i.zero,i.size,i.bytes))=some (some (.int .i64 0),1,8):=by kernel_rfl
def rowC (ws:List Int)(m:Int)(k i:Nat)(cur:Int):List Int:=List.replicate i 0++cur::(bestL ws m k).map (·.1)
def rowE (ws:List Int)(m:Int)(k i:Nat)(cur:Int):List Int:=List.replicate i 0++cur::(bestL ws m k).map (fun x=>(x.2:Int))
theorem rowC_start (ws:List Int)(m:Int):List.replicate (ws.length+1) (0:Int)=List.replicate ws.length 0++(bestL ws m 0).map (·.1):=by rw[List.replicate_succ'];rfl
theorem rowE_start (ws:List Int)(m:Int):List.replicate (ws.length+1) (0:Int)=List.replicate ws.length 0++(bestL ws m 0).map (fun x=>(x.2:Int)):=by rw[List.replicate_succ'];rfl
theorem row_open (i:Nat)(l:List Int):List.replicate (i+1) (0:Int)++l=List.replicate i 0++0::l:=by rw[List.replicate_succ',List.append_assoc];rfl
theorem row_set (i:Nat)(l:List Int)(x y:Int):(List.replicate i 0++x::l).set i y=List.replicate i 0++y::l:=by
 rw[List.set_append_right _ _ (by simp)];simp
theorem row_at (i:Nat)(l:List Int)(x:Int):(List.replicate i 0++x::l)[i]? =some x:=by
 rw[List.getElem?_append_right (by simp)];simp
theorem best_next (ws:List Int)(m:Int){i k:Nat}(h:i+1+k=ws.length):bestL ws m (k+1)=scanE ws.length (ws.drop i) (bestL ws m k) (m+6) (i+1) true (0,0)::bestL ws m k:=by
 have e:ws.length-(k+1)=i:=by omega
 rw[bestL,e]
theorem rowC_next {ws:List Int}{m:Int}{i k:Nat}{cur:Int × Nat}(h:i+1+k=ws.length)(hc:scanE ws.length (ws.drop i) (bestL ws m k) (m+6) (i+1) true (0,0)=cur):rowC ws m k i cur.1=List.replicate i 0++(bestL ws m (k+1)).map (·.1):=by
 rw[best_next ws m h,hc];rfl
theorem rowE_next {ws:List Int}{m:Int}{i k:Nat}{cur:Int × Nat}(h:i+1+k=ws.length)(hc:scanE ws.length (ws.drop i) (bestL ws m k) (m+6) (i+1) true (0,0)=cur):rowE ws m k i (cur.2:Int)=List.replicate i 0++(bestL ws m (k+1)).map (fun x=>(x.2:Int)):=by
 rw[best_next ws m h,hc];rfl
theorem head_drop (l:List (Int × Nat))(d:Nat)(x:Int × Nat)(h:l[d]? =some x):(l.drop d).headD (0,0)=x:=by
 rw[List.headD_eq_head?_getD,List.head?_drop,h];rfl
theorem ends_at (ws:List Int)(m:Int)(a:Nat)(h:a<ws.length):((bestL ws m ws.length).map (fun x=>(x.2:Int)))[a]? =some ((bestAt ws m a).2:Int):=by
 unfold bestAt;rw[List.getElem?_map,List.getD_eq_getElem?_getD,qG (by rw[QbA];omega)];rfl
theorem chain_at (ws:List Int)(m:Int)(a f:Nat)(h:a<ws.length):chainE ((bestL ws m ws.length).map (·.2)) ws.length (f+1) a=(bestAt ws m a).2::chainE ((bestL ws m ws.length).map (·.2)) ws.length f (bestAt ws m a).2:=by
 have e:((bestL ws m ws.length).map (·.2)).getD a 0=(bestAt ws m a).2:=by
  unfold bestAt;rw[List.getD_eq_getElem?_getD,List.getD_eq_getElem?_getD,List.getElem?_map,qG (by rw[QbA];omega)];rfl
 rw[chainE,if_pos h,e]
theorem row_behind (i d:Nat)(l:List Int)(x:Int):(List.replicate i 0++x::l)[i+d+1]? =l[d]? :=by
 rw[List.getElem?_append_right (by simp;omega)];have:i+d+1-(List.replicate i (0:Int)).length=d+1:=by simp;omega
 rw[this,List.getElem?_cons_succ]
theorem QbJ (w:World)(n:Nat)(t:TypeId):IRow (w.alloc (.cells (madeCells #[Value.int .i64 0] n) t)) w.heap.size t (List.replicate n 0):=by
 have:=irow_made w n t;rwa [Nat.mul_one] at this
set_option maxRecDepth 100000 in
theorem ends_any (A:Option Addr)(c:Nat)(ws:List Int)(m:Int)(w:World)(hs:Sl w (fun b=>b<w.heap.size) A c ws)(hr:Reg ws m):
 Calls Tryz.prog 135 #[.slice A ws.length c,.int .i64 m] w fun e w'=>∃v,e=.returned (.tuple #[v,.int .i64 0])∧Own w' w.heap.size 3 v ((endsP ws m).map (fun(n:Nat)=>(n:Int)))∧Below w.heap.size w w':=by
 have HC:=Lh (pcheck_any A c ws m w hs hr);have HS:=Lh hs;have HR:=Lh hr;have h1:m≤2000:=hr.hi;have h2:500≤m:=hr.lo;have h3:ws.length≤500:=hr.n;have hn1:Value.int .i64 (IntKind.i64.wrap ((ws.length:Int)+1))=Value.int .i64 ((ws.length+1:Nat):Int):=by rw[IntWalk.i64_in _ (by omega),Int.natCast_add];rfl
 have HN1:=Lh hn1;clear hs hr hn1;go_enter Tryz.func135,Tryz.ntmps135;go_wp2_with fail;refine HC.out.mono ?_;rintro e w' ⟨rfl,rfl⟩;go_upto_region 5 with(fail);go_cut [8,9] from 23 to 29 (fun a8 a9 wx=>∃(Cb Eb:Nat),a8=.slice (some ⟨Cb,0,none⟩) (ws.length+1) (ws.length+1)∧a9=.slice (some ⟨Eb,0,none⟩) (ws.length+1) (ws.length+1)∧Hid (Cb≠Eb∧w.heap.size≤Cb∧w.heap.size≤Eb)∧Hid (IRow wx Cb 3 (List.replicate (ws.length+1) 0))∧Hid (IRow wx Eb 3 (List.replicate (ws.length+1) 0))∧Hid (Below w.heap.size w wx));case first=>
  refine Qaj (fun _=>True) (fun _=>true) (by kernel_rfl) ?_;have HB0:Hid (Below w.heap.size w w.drew):=Lh bR.drew;generalize w.drew=wq at*;refine Qaa (i:=0) (oi:=⟨some 23,Op.move (.tmp 7),3,_,_,_⟩) (v:=?_) rfl (by kernel_rfl) (by kernel_rfl) (by kernel_rfl) (by kernel_rfl) (by kernel_rfl) (fun _ _ _ h=>h) (by rfl) ?zq0 trivial ?zq1;(case zq0=>intro _ s;clear s;go_simp;(try with_reducible rfl));(all_goals try go_frame);refine Qaa (i:=1) (oi:=⟨some 24,Op.binOp BinOp.add 3 (.tmp 23) (Operand.const (Value.int IntKind.i64 1)) 3,3,_,_,_⟩) (v:=?_) rfl (by kernel_rfl) (by kernel_rfl) (by kernel_rfl) (by kernel_rfl) (by kernel_rfl) (fun _ _ _ h=>h) (by rfl) ?zq2 trivial ?zq3;(case zq2=>intro _ s;clear s;go_simp;(try with_reducible rfl));(all_goals try go_frame);refine Qaa (i:=3) (oi:=⟨some 26,Op.move (.tmp 7),3,_,_,_⟩) (v:=?_) rfl (by kernel_rfl) (by kernel_rfl) (by kernel_rfl) (by kernel_rfl) (by kernel_rfl) (fun _ _ _ h=>h) (by rfl) ?zq4 trivial ?zq5;(case zq4=>intro _ s;clear s;go_simp;(try with_reducible rfl));(all_goals try go_frame);refine Qaa (i:=4) (oi:=⟨some 27,Op.binOp BinOp.add 3 (.tmp 26) (Operand.const (Value.int IntKind.i64 1)) 3,3,_,_,_⟩) (v:=?_) rfl (by kernel_rfl) (by kernel_rfl) (by kernel_rfl) (by kernel_rfl) (by kernel_rfl) (fun _ _ _ h=>h) (by rfl) ?zq6 trivial ?zq7;(case zq6=>intro _ s;clear s;go_simp;(try with_reducible rfl));(all_goals try go_frame);have hn1:=HN1.out;refine QaW (i:=2) (j:=5) (oi:=⟨some 25,Op.makeSlice 22 (.tmp 24) (.tmp 24),22,_,_,_⟩) (oj:=⟨some 28,Op.makeSlice 22 (.tmp 27) (.tmp 27),22,_,_,_⟩) (by kernel_rfl) rfl rfl (by rfl) (by rfl) (fun K hK=>?_) (fun K hK=>?_)
  ·refine Qel 22 (.tmp 24) (.tmp 24) rfl 3 (.int .i64 0) 1 8 Tryz.underlying22 Qbf (ws.length+1) hn1 hn1 (by omega) (by omega) ?_;refine hK _ _ (fun _=>trivial) ?_;clear hK K;(try go_frame);refine Qaa (i:=6) (oi:=⟨some 8,Op.assign (.tmp 25),22,_,_,_⟩) (v:=?_) rfl (by kernel_rfl) (by kernel_rfl) (by kernel_rfl) (by kernel_rfl) (by kernel_rfl) (fun _ _ _ h=>h) (by rfl) ?zq8 trivial ?zq9;(case zq8=>intro _ s;clear s;go_simp;(try with_reducible rfl));(all_goals try go_frame);refine tD 5 ⟨some 28,Op.makeSlice 22 (.tmp 27) (.tmp 27),22,_,_,_⟩ rfl fun K hK=>?_
   refine Qel 22 (.tmp 27) (.tmp 27) rfl 3 (.int .i64 0) 1 8 Tryz.underlying22 Qbf (ws.length+1) hn1 hn1 (by omega) (by omega) ?_;refine hK _ _ (fun _=>trivial) ?_;clear hK K;(try go_frame);refine tD 7 ⟨some 9,Op.assign (.tmp 28),22,_,_,_⟩ rfl fun K hK=>?_
   go_simp;refine hK _ _ (fun _=>trivial) ?_;clear hK K;(try go_frame);have hr0:=QbJ wq (ws.length+1) 3;have hr1:=QbJ (wq.alloc (.cells (madeCells #[Value.int .i64 0] (ws.length+1)) 3)) (ws.length+1) 3;rw[World.size_alloc] at hr1;have hb1:Below wq.heap.size wq (wq.alloc (.cells (madeCells #[Value.int .i64 0] (ws.length+1)) 3)):=bR.alloc nL _;have hb2:Below (wq.alloc (.cells (madeCells #[Value.int .i64 0] (ws.length+1)) 3)).heap.size (wq.alloc (.cells (madeCells #[Value.int .i64 0] (ws.length+1)) 3)) _:=bR.alloc nL (.cells (madeCells #[Value.int .i64 0] (ws.length+1)) 3);refine Qae (by kernel_rfl) ?_ _;unfold Exit.then;go_wp2_with fail;go_meet;exact⟨wq.heap.size,wq.heap.size+1,rfl,rfl,Lh ⟨by omega,(by have:=HB0.out.size;omega),(by have:=HB0.out.size;omega)⟩,Lh (hr0.to hb2),Lh hr1,Lh (HB0.out.trans ((hb1.trans (hb2.mono (by simp))).mono HB0.out.size))⟩
  ·refine Qel 22 (.tmp 27) (.tmp 27) rfl 3 (.int .i64 0) 1 8 Tryz.underlying22 Qbf (ws.length+1) hn1 hn1 (by omega) (by omega) ?_;refine hK _ _ (fun _=>trivial) ?_;clear hK K;(try go_frame);refine tD 2 ⟨some 25,Op.makeSlice 22 (.tmp 24) (.tmp 24),22,_,_,_⟩ rfl fun K hK=>?_
   refine Qel 22 (.tmp 24) (.tmp 24) rfl 3 (.int .i64 0) 1 8 Tryz.underlying22 Qbf (ws.length+1) hn1 hn1 (by omega) (by omega) ?_;refine hK _ _ (fun _=>trivial) ?_;clear hK K;(try go_frame);refine tD 6 ⟨some 8,Op.assign (.tmp 25),22,_,_,_⟩ rfl fun K hK=>?_
   go_simp;refine hK _ _ (fun _=>trivial) ?_;clear hK K;(try go_frame);refine tD 7 ⟨some 9,Op.assign (.tmp 28),22,_,_,_⟩ rfl fun K hK=>?_
   go_simp;refine hK _ _ (fun _=>trivial) ?_;clear hK K;(try go_frame);have hr0:=QbJ wq (ws.length+1) 3;have hr1:=QbJ (wq.alloc (.cells (madeCells #[Value.int .i64 0] (ws.length+1)) 3)) (ws.length+1) 3;rw[World.size_alloc] at hr1;have hb1:Below wq.heap.size wq (wq.alloc (.cells (madeCells #[Value.int .i64 0] (ws.length+1)) 3)):=bR.alloc nL _;have hb2:Below (wq.alloc (.cells (madeCells #[Value.int .i64 0] (ws.length+1)) 3)).heap.size (wq.alloc (.cells (madeCells #[Value.int .i64 0] (ws.length+1)) 3)) _:=bR.alloc nL (.cells (madeCells #[Value.int .i64 0] (ws.length+1)) 3);refine Qae (by kernel_rfl) ?_ _;unfold Exit.then;go_wp2_with fail;go_meet;exact⟨wq.heap.size+1,wq.heap.size,rfl,rfl,Lh ⟨by omega,(by have:=HB0.out.size;omega),(by have:=HB0.out.size;omega)⟩,Lh hr1,Lh (hr0.to hb2),Lh (HB0.out.trans ((hb1.trans (hb2.mono (by simp))).mono HB0.out.size))⟩
 case rest=>
  obtain⟨Cb,Eb,rfl,rfl,HNE,HCR,HER,HBc⟩:=hcut;clear HC HN1;go_wp2_with fail;go_loopw [10] (fun z wr=>∃(k:Nat) (i1:Nat),z=.int .i64 ((i1:Int)-1)∧Hid (i1+k=ws.length)∧Hid (IRow wr Cb 3 (List.replicate i1 0++(bestL ws m k).map (·.1)))∧Hid (IRow wr Eb 3 (List.replicate i1 0++(bestL ws m k).map (fun x=>(x.2:Int))))∧Hid (Below w.heap.size w wr)) (fun z _=>(intOf z+1).toNat);(case atStart=>exact⟨0,ws.length,rfl,Lh (by omega),Lh (by rw[←rowC_start];exact HCR.out),Lh (by rw[←rowE_start];exact HER.out),HBc⟩);case round=>
   clear HCR HER HBc;obtain⟨k,i1,rfl,HIK,HCR,HER,HBw⟩:=hrel;by_cases hz:i1=0
   ·subst hz;have HKN:Hid (k=ws.length):=Lh (by have:=HIK.out;omega);have HE0:Hid (IRow wr Eb 3 ((bestL ws m ws.length).map (fun x=>(x.2:Int)))):=Lh (by have:=HER.out;rw[HKN.out] at this;exact this);clear HER HCR HKN HIK;rw[show((0:Nat):Int)-1= -1 from rfl];go_wp2_with fail;obtain⟨wo,rfl⟩:∃wo:World,wo=wr:=⟨_,rfl⟩;go_loopw [13,14] (fun v vi wq=>∃(f a:Nat) (dn:List Nat),vi=.int .i64 (a:Int)∧a≤ws.length∧Hid (ws.length-a≤f)∧Hid (endsP ws m=dn++chainE ((bestL ws m ws.length).map (·.2)) ws.length f a)∧Hid (dn.length≤a)∧Hid (Own wq wo.heap.size 3 v (dn.map (fun(n:Nat)=>(n:Int))))∧Hid (Below wo.heap.size wo wq)) (fun _ vi _=>ws.length-(intOf vi).toNat);(case atStart=>exact⟨ws.length,0,[],rfl,Nat.zero_le _,Lh (by omega),Lh rfl,Lh (Nat.zero_le _),Lh (Own.nil _ _ _),Lh bR⟩);case round=>
     obtain⟨f,a,dn,rfl,han,HF,HEN,HDL,HO,HBq⟩:=hrel;by_cases hlt:a<ws.length
     ·have hai:(a:Int)<(ws.length:Int):=by omega
      have ha0:(0:Int)≤(a:Int):=(by omega);obtain⟨f',rfl⟩:∃f',f=f'+1:=⟨f-1,by have:=HF.out;omega⟩;have HEA:=Lh (bestAt_end HR.out a hlt);have HNX:Hid (endsP ws m=(dn++[(bestAt ws m a).2])++chainE ((bestL ws m ws.length).map (·.2)) ws.length f' (bestAt ws m a).2):=Lh (by rw[HEN.out,chain_at ws m a f' hlt];simp);have HE1:=Lh (HE0.out.to HBq.out);have c0:wr.cell? ⟨Eb,a,none⟩=some (.int .i64 ((bestAt ws m a).2:Int)):=HE1.out.cell a (ends_at ws m a hlt);generalize (bestAt ws m a).2=en at*;have hba:Below wr.heap.size wr (wr.alloc (.cells #[.int .i64 (en:Int)] 3)):=bR.alloc nL _;have HO2:=Lh (HO.out.below hba);have HBA:=Lh hba;have HI:Hid (I64 (en:Int)):=Lh (by have:=HEA.out;unfold I64;omega);have HLD:Hid (dn.length≤500):=Lh (by have:=HDL.out;omega)
      have HCE:Hid (∀W,Below wo.heap.size wo W→W.cell? ⟨Eb,a,none⟩=some (.int .i64 (en:Int))):=Lh (fun W hW=>by
       have h1:=c0
       have h2:=HE0.out.lt
       exact((hW.cell (p:=⟨Eb,a,none⟩) h2).trans ((HBq.out.cell (p:=⟨Eb,a,none⟩) h2).symm)).trans h1)
      clear hba
      go_upto_region 21 with(first|(at_builtin;refine Qav (α:=Int) _ rfl (.tmp 105) (.tmp 110) 22 rfl wo.heap.size 3 (.int .i64 0) 8 Tryz.underlying22 Qbf rfl (by decide) u13 (dn.map (fun(n:Nat)=>(n:Int))) rfl HO2.out wr.heap.size #[.int .i64 (en:Int)] (en:Int) (0,0) 3 rfl (heap_alloc_new wr _) ⟨rfl,HI.out⟩ (by have:=HLD.out;rw[qM];omega) (by have:=HLD.out;rw[qM];omega) (by have:=HBq.out.size;simp;omega) _ rfl ?_;intro g5 p5 w5 hown5 hg5 hat5 hlt5)|fail)
      have hb5:Below wo.heap.size wo w5:=QbN HBq.out HO.out HBq.out.size hg5;have HO5:=Lh hown5;have HB5:=Lh hb5;have c5:=HCE.out w5 hb5;clear hb5 hown5 hg5 hat5 hlt5 c0 HCE;go_wp2_with fail;go_roundw;(case rel=>exact⟨f',en,dn++[en],rfl,by have:=HEA.out;omega,Lh (by have:=HEA.out;have:=HF.out;omega),HNX,Lh (by have:=HEA.out;have:=HDL.out;simp;omega),Lh (by have:=HO5.out;rw[qM] at this;rw[List.map_append];exact this),HB5⟩);case measure=>(have hx1:=HEA.out;simp[intOf];omega)
     ·have hai:¬(a:Int)<(ws.length:Int):=by omega
      have HFN:Hid (endsP ws m=dn):=Lh (by
       have e:chainE ((bestL ws m ws.length).map (·.2)) ws.length f a=[]:=by
        cases f with
        |zero=>rfl
        |succ f=>rw[chainE,if_neg hlt]
       rw[HEN.out,e,List.append_nil])
      have HBz:=Lh (HBw.out.trans (HBq.out.mono HBw.out.size));have HOz:=Lh (HO.out.re HBw.out.size);go_wp2_with fail;go_ret2;exact⟨_,rfl,by rw[HFN.out];exact HOz.out,HBz.out⟩
   ·obtain⟨i,rfl⟩:∃i,i1=i+1:=⟨i1-1,by omega⟩;have hi0:(0:Int)≤(i:Int):=(by omega);have hi5:(i:Int)<500:=(by have:=HIK.out;omega);have hi6:(i:Int)<(ws.length:Int):=(by have:=HIK.out;omega);have hii:((i+1:Nat):Int)-1=(i:Int):=(by omega);rw[hii];clear hii hz;have HIN:Hid (i+1+k=ws.length):=HIK;have HC0:Hid (IRow wr Cb 3 (rowC ws m k i 0)):=Lh (by unfold rowC;rw[←row_open];exact HCR.out);have HE0:Hid (IRow wr Eb 3 (rowE ws m k i 0)):=Lh (by unfold rowE;rw[←row_open];exact HER.out);clear HIK HCR HER;obtain⟨wo,rfl⟩:∃wo:World,wo=wr:=⟨_,rfl⟩;go_wp2_with fail;go_step3;go_wp2_with fail;go_step3;go_wp2_with fail;go_loopw [11,12] (fun vs vj ww=>∃(d p:Nat) (s:Int) (cur:Int × Nat),vs=.int .i64 s∧vj=.int .i64 ((p:Int)+1)∧Hid (p=i+d∧p<ws.length)∧s≤2006∧0≤s∧Hid (scanE ws.length (ws.drop i) (bestL ws m k) (m+6) (i+1) true (0,0)=scanE ws.length (ws.drop p) ((bestL ws m k).drop d) s (p+1) (decide (d=0)) cur)∧Hid (0≤cur.1∧cur.1≤4100000*((k:Int)+1))∧Hid (IRow ww Cb 3 (rowC ws m k i cur.1))∧Hid (IRow ww Eb 3 (rowE ws m k i (cur.2:Int)))∧Hid (Below w.heap.size w ww)) (fun _ vj _=>(ws.length+1-(intOf vj).toNat));(case atStart=>exact⟨0,i,m+6,(0,0),rfl,rfl,Lh (by have:=HIN.out;omega),by omega,by omega,Lh rfl,Lh (by simp;omega),HC0,HE0,HBw⟩);case round=>
     clear HC0 HE0 HBw;obtain⟨d,p,s,cur,rfl,rfl,HP,hs1,hs2,HSC,HCB,HCR,HER,HBw⟩:=hrel;have hpl:p<ws.length:=HP.out.2;have hp0:(0:Int)≤(p:Int):=(by omega);have hpn:(p:Int)<(ws.length:Int):=(by omega);obtain⟨b,o,rfl,_,hbl,hok,hc⟩:=Qcf (HS.out.to HBw.out) hpl;have hx:=HR.out.w ws[p] (List.getElem_mem hpl);have HDR:Hid (ws.drop p=ws[p]::ws.drop (p+1)):=Lh (List.drop_eq_getElem_cons hpl);obtain⟨x,hxe⟩:∃x,ws[p]=x:=⟨_,rfl⟩;rw[hxe] at hc hx HDR;obtain⟨hx1,hx2⟩:=hx;clear hxe hok hbl;obtain⟨s2,hs2e⟩:∃s2,s-(x+6)=s2:=⟨_,rfl⟩;have hsa:s2≤2006:=(by omega);have hsb: -500≤s2:=(by omega);have HSE:=Lh hs2e;go_upto_block 4 with(fail);(try rw[hs2e]);clear hs2e hc;by_cases hneg:s2<0
     ·have HRES:Hid (scanE ws.length (ws.drop i) (bestL ws m k) (m+6) (i+1) true (0,0)=cur):=Lh (by rw[HSC.out,HDR.out];exact scanE_neg _ _ _ _ _ _ _ _ (by rw[HSE.out];exact hneg));go_wp2_with fail;apply_assumption;go_wp2_with fail;go_roundw;(case rel=>exact⟨k+1,i,by go_num,Lh (by have:=HIN.out;omega),Lh (by rw[←rowC_next HIN.out HRES.out];exact HCR.out),Lh (by rw[←rowE_next HIN.out HRES.out];exact HER.out),HBw⟩);case measure=>(first|(simp[intOf];done)|(simp[intOf];omega))
     ·have hnn:0≤s2:=by omega
      have HNN:Hid (¬s-(x+6)<0):=Lh (by rw[HSE.out];exact hneg);have c0:wr.cell? ⟨Cb,i,none⟩=some (.int .i64 cur.1):=HCR.out.cell i (row_at _ _ _);have f0:=HCR.out.fz i;by_cases hlast:p+1=ws.length
      ·have HRES:Hid (scanE ws.length (ws.drop i) (bestL ws m k) (m+6) (i+1) true (0,0)=(0,ws.length)):=Lh (by rw[HSC.out,HDR.out,hlast];exact scanE_last _ _ _ _ _ _ _ HNN.out);have hl1:(p:Int)+1=(ws.length:Int):=(by omega);have HE1:Hid (IRow (wr.setCell ⟨Cb,i,none⟩ (.int .i64 0)) Eb 3 (rowE ws m k i (cur.2:Int))):=Lh (HER.out.other (Ne.symm HNE.out.1) i (.int .i64 0));have c1:=HE1.out.cell i (row_at _ _ _);have f1:=HE1.out.fz i;have HC2:=Lh ((HCR.out.set i 0).other HNE.out.1 i (.int .i64 (ws.length:Int)));have HE2:=Lh (HE1.out.set i (ws.length:Int));have HB2:Hid (Below w.heap.size w ((wr.setCell ⟨Cb,i,none⟩ (.int .i64 0)).setCell ⟨Eb,i,none⟩ (.int .i64 (ws.length:Int)))):=Lh ((HBw.out.setCell (p:=⟨Cb,i,none⟩) HNE.out.2.1 _).setCell (p:=⟨Eb,i,none⟩) HNE.out.2.2 _);rw[show rowC ws m k i cur.1=List.replicate i 0++cur.1::(bestL ws m k).map (·.1) from rfl,row_set] at HC2;rw[show rowE ws m k i (cur.2:Int)=List.replicate i 0++(cur.2:Int)::(bestL ws m k).map (fun x=>(x.2:Int)) from rfl,row_set] at HE2;have HRC:=Lh (rowC_next HIN.out HRES.out);have HRE:=Lh (rowE_next HIN.out HRES.out);clear HE1 hlast;go_wp2_with fail;go_roundw;(case rel=>exact⟨k+1,i,by go_num,Lh (by have:=HIN.out;omega),Lh (by rw[←HRC.out];exact HC2.out),Lh (by rw[←HRE.out];exact HE2.out),HB2⟩);case measure=>(first|(simp[intOf];done)|(simp[intOf];omega))
      ·have hl1:¬(p:Int)+1=(ws.length:Int):=by omega
       have hl2:((p:Int)+1==(ws.length:Int))=false:=(by rw[beq_eq_false_iff_ne];omega);obtain⟨bd,hbd⟩:∃bd,(bestL ws m k)[d]? =some bd:=by
        have h:=QbA ws m k;exact⟨_,qG (by have:=HP.out;have:=HIN.out;omega)⟩
       have hbb:=bestL_cost HR.out k bd (List.mem_of_getElem? hbd);have HHD:=Lh (head_drop _ _ _ hbd)
       have c2:wr.cell? ⟨Cb,p+1,none⟩=some (.int .i64 bd.1):=HCR.out.cell (p+1) (by
        have e:p+1=i+d+1:=(by have:=HP.out.1;omega)
        rw[e,show rowC ws m k i cur.1=List.replicate i 0++cur.1::(bestL ws m k).map (·.1) from rfl,row_behind,List.getElem?_map,hbd];rfl)
       have HBD:=Lh hbd;have hk5:(k:Int)≤500:=(by have:=HIN.out;omega);have hb0:0≤bd.1:=hbb.1;have hb1:bd.1≤2050000000:=(by have:=hbb.2;omega);have hbk:bd.1≤4100000*(k:Int):=hbb.2;obtain⟨cb,hcb⟩:∃x,bd.1=x:=⟨_,rfl⟩;rw[hcb] at c2 hb0 hb1 hbk;have HCBE:=Lh hcb;clear hcb hbd hbb;obtain⟨q,hq⟩:∃q,s2*s2=q:=⟨_,rfl⟩;have hq0:0≤q:=(by rw[←hq];exact Int.mul_nonneg hnn hnn);have hq1:q≤4024036:=(by rw[←hq];exact Int.mul_le_mul hsa hsa hnn (by omega));have HQ:=Lh hq;have hw1:IntKind.i64.wrap (s2*s2)=q:=(by rw[hq];exact IntWalk.i64_in _ (by omega));have hw2:IntKind.i64.wrap (q+cb)=q+cb:=IntWalk.i64_in _ (by omega);have HW1:=Lh hw1;clear hq
       have HST:Hid (scanE ws.length (ws.drop i) (bestL ws m k) (m+6) (i+1) true (0,0)=scanE ws.length (ws.drop (p+1)) ((bestL ws m k).drop (d+1)) s2 (p+1+1) false (if decide (d=0)=true∨q+cb≤cur.1 then(q+cb,p+1) else cur)):=Lh (by
        rw[HSC.out,HDR.out,scanE_step _ _ _ _ _ _ _ _ HNN.out (by omega),HSE.out,HHD.out,HQ.out,HCBE.out,List.tail_drop])
       by_cases hd0:d=0
       ·subst hd0;obtain rfl:p=i:=by have:=HP.out.1;omega
        go_upto_region 16 with(fail);go_quiet (fail);have hdn:Below wr.heap.size wr (wr.drewN nq):=Below.dn bR nq;have HCRn:=Lh (HCR.out.to hdn);have HERn:=Lh (HER.out.to hdn);have HBn:=Lh (HBw.out.trans (hdn.mono HBw.out.size));have c2n:(wr.drewN nq).cell? ⟨Cb,p+1,none⟩=some (.int .i64 cb):=c2;clear hdn c0 f0 c2;generalize World.drewN wr nq=wn at*;have c0:wn.cell? ⟨Cb,p,none⟩=some (.int .i64 cur.1):=HCRn.out.cell p (row_at _ _ _);have f0:=HCRn.out.fz p;have HE1:Hid (IRow (wn.setCell ⟨Cb,p,none⟩ (.int .i64 (q+cb))) Eb 3 (rowE ws m k p (cur.2:Int))):=Lh (HERn.out.other (Ne.symm HNE.out.1) p (.int .i64 (q+cb)));have c1:=HE1.out.cell p (row_at _ _ _);have f1:=HE1.out.fz p;have HC2:Hid (IRow ((wn.setCell ⟨Cb,p,none⟩ (.int .i64 (q+cb))).setCell ⟨Eb,p,none⟩ (.int .i64 ((p:Int)+1))) Cb 3 (rowC ws m k p (q+cb))):=Lh (by have:=(HCRn.out.set p (q+cb)).other HNE.out.1 p (.int .i64 ((p:Int)+1));rwa [show rowC ws m k p cur.1=List.replicate p 0++cur.1::(bestL ws m k).map (·.1) from rfl,row_set] at this);have HE2:Hid (IRow ((wn.setCell ⟨Cb,p,none⟩ (.int .i64 (q+cb))).setCell ⟨Eb,p,none⟩ (.int .i64 ((p:Int)+1))) Eb 3 (rowE ws m k p ((p+1:Nat):Int))):=Lh (by have:=HE1.out.set p ((p:Int)+1);rwa [show rowE ws m k p (cur.2:Int)=List.replicate p 0++(cur.2:Int)::(bestL ws m k).map (fun x=>(x.2:Int)) from rfl,row_set] at this);have HB2:Hid (Below w.heap.size w ((wn.setCell ⟨Cb,p,none⟩ (.int .i64 (q+cb))).setCell ⟨Eb,p,none⟩ (.int .i64 ((p:Int)+1)))):=Lh ((HBn.out.setCell (p:=⟨Cb,p,none⟩) HNE.out.2.1 _).setCell (p:=⟨Eb,p,none⟩) HNE.out.2.2 _);clear HE1;go_wp2_with fail;go_roundw;(case rel=>exact⟨0+1,p+1,s2,(q+cb,p+1),rfl,by go_num,Lh (by have:=HP.out;omega),hsa,hnn,Lh (by rw[HST.out,if_pos (by simp_all)];rfl),Lh (by simp only;omega),HC2,HE2,HB2⟩);case measure=>(first|(simp[intOf];done)|(simp[intOf];omega))
       ·have hpi:¬(p:Int)=(i:Int):=by have:=HP.out.1;omega
        have hpi2:((p:Int)==(i:Int))=false:=(by rw[beq_eq_false_iff_ne];exact hpi);have hpi3:((p:Int)+1==(i:Int)+1)=false:=(by rw[beq_eq_false_iff_ne];omega);by_cases hle:q+cb≤cur.1
        ·go_upto_region 16 with(fail);go_quiet (fail);have hdn:Below wr.heap.size wr (wr.drewN nq):=Below.dn bR nq;have HCRn:=Lh (HCR.out.to hdn);have HERn:=Lh (HER.out.to hdn);have HBn:=Lh (HBw.out.trans (hdn.mono HBw.out.size));have c2n:(wr.drewN nq).cell? ⟨Cb,p+1,none⟩=some (.int .i64 cb):=c2;clear hdn c0 f0 c2;generalize World.drewN wr nq=wn at*;have c0:wn.cell? ⟨Cb,i,none⟩=some (.int .i64 cur.1):=HCRn.out.cell i (row_at _ _ _);have f0:=HCRn.out.fz i;have HE1:Hid (IRow (wn.setCell ⟨Cb,i,none⟩ (.int .i64 (q+cb))) Eb 3 (rowE ws m k i (cur.2:Int))):=Lh (HERn.out.other (Ne.symm HNE.out.1) i (.int .i64 (q+cb)));have c1:=HE1.out.cell i (row_at _ _ _);have f1:=HE1.out.fz i;have HC2:Hid (IRow ((wn.setCell ⟨Cb,i,none⟩ (.int .i64 (q+cb))).setCell ⟨Eb,i,none⟩ (.int .i64 ((p:Int)+1))) Cb 3 (rowC ws m k i (q+cb))):=Lh (by have:=(HCRn.out.set i (q+cb)).other HNE.out.1 i (.int .i64 ((p:Int)+1));rwa [show rowC ws m k i cur.1=List.replicate i 0++cur.1::(bestL ws m k).map (·.1) from rfl,row_set] at this);have HE2:Hid (IRow ((wn.setCell ⟨Cb,i,none⟩ (.int .i64 (q+cb))).setCell ⟨Eb,i,none⟩ (.int .i64 ((p:Int)+1))) Eb 3 (rowE ws m k i ((p+1:Nat):Int))):=Lh (by have:=HE1.out.set i ((p:Int)+1);rwa [show rowE ws m k i (cur.2:Int)=List.replicate i 0++(cur.2:Int)::(bestL ws m k).map (fun x=>(x.2:Int)) from rfl,row_set] at this);have HB2:Hid (Below w.heap.size w ((wn.setCell ⟨Cb,i,none⟩ (.int .i64 (q+cb))).setCell ⟨Eb,i,none⟩ (.int .i64 ((p:Int)+1)))):=Lh ((HBn.out.setCell (p:=⟨Cb,i,none⟩) HNE.out.2.1 _).setCell (p:=⟨Eb,i,none⟩) HNE.out.2.2 _);clear HE1;go_wp2_with fail;go_roundw;(case rel=>exact⟨d+1,p+1,s2,(q+cb,p+1),rfl,by go_num,Lh (by have:=HP.out;omega),hsa,hnn,Lh (by rw[HST.out,if_pos (by simp_all)];rfl),Lh (by simp only;omega),HC2,HE2,HB2⟩);case measure=>(first|(simp[intOf];done)|(simp[intOf];omega))
        ·go_upto_region 16 with(fail);go_quiet (fail);have hdn:Below wr.heap.size wr (wr.drewN nq):=Below.dn bR nq;have HCRn:=Lh (HCR.out.to hdn);have HERn:=Lh (HER.out.to hdn);have HBn:=Lh (HBw.out.trans (hdn.mono HBw.out.size));have c2n:(wr.drewN nq).cell? ⟨Cb,p+1,none⟩=some (.int .i64 cb):=c2;clear hdn c0 f0 c2;generalize World.drewN wr nq=wn at*;go_wp2_with fail;go_roundw;(case rel=>exact⟨d+1,p+1,s2,cur,rfl,by go_num,Lh (by have:=HP.out;omega),hsa,hnn,Lh (by rw[HST.out,if_neg (by simp_all)];rfl),Lh (by have:=HCB.out;omega),HCRn,HERn,HBn⟩);case measure=>(first|(simp[intOf];done)|(simp[intOf];omega))
theorem mul1_any (k:Nat)(hk:k≤500)(w:World):Calls Tryz.prog 175 #[.int .u64 1,.int .u64 (k:Int)] w fun e w'=>e=.returned (.tuple #[.int .u64 0,.int .u64 (k:Int)])∧w=w':=by
 have h:=Tryz.bits_Mul 1 k (by decide) (by omega) w;have e1:1*k/18446744073709551616=0:=Nat.div_eq_of_lt (by omega);have e2:1*k%18446744073709551616=k:=by rw[Nat.one_mul];exact Nat.mod_eq_of_lt (by omega)
 rw[e1,e2] at h;refine h.mono ?_;rintro e w' ⟨rfl,rfl⟩;exact⟨rfl,rfl⟩
theorem wp_copy_own {P:Program}{w:World}{o:Oper}{a:Act}{K:Act→World→Prop}{Q:Exit→Act→World→Prop}(d s:Operand)(dT sT:TypeId) (ho:o.op=.call {callee:=.builtin .copy,args:=#[d,s],argTypes:=#[dT,sT]}) (elem:TypeId) (hu:P.underlying dT=some (.slice elem)) (hsz:(P.info? elem).map (·.size)=some 1) (g off dLen dCap:Nat) (ad:Addr) (sLen sCap:Nat) (hd:a.eval d=.slice (some ⟨g,off,none⟩) dLen dCap) (hs:a.eval s=.slice (some ad) sLen sCap) (cur:Array Value) (t:TypeId) (hg:w.heap[g]? =some (.cells cur t (0,0))) (cs:List Value) (hn:cs.length=Nat.min sLen dLen) (hsrc:∀j v,cs[j]? =some v→w.cell? (ad.add j)=some v) (hfit:off+cs.length≤cur.size) (h1:∀v∈cs,v.oneCell'=true) (h:K (a.put o.dst (goInt cs.length)) (w.setRow g (cur.toList.take off++(cs++cur.toList.drop (off+cs.length))).toArray)):o.wp P a w K Q:=by
 have hrun:=run_copy_row (P:=P) w dT sT o.type elem g off dLen dCap ad sLen sCap cur t cs hu hsz hg hn hsrc hfit h1;unfold Oper.wp;simp[execOp,ho,resolve,invoke,builtin,hd,hs,hrun,Result.andThen];exact h
theorem rep_copy (x:Int)(n k c:Nat)(hn:n+c≤k):((((List.replicate n x++List.replicate (k-n) 0).map (Value.int .i64)).toArray.toList.take n)++(List.replicate c (Value.int .i64 x)++(((List.replicate n x++List.replicate (k-n) 0).map (Value.int .i64)).toArray.toList.drop (n+c)))).toArray=((List.replicate (n+c) x++List.replicate (k-(n+c)) 0).map (Value.int .i64)).toArray:=by
 congr 1;simp only[List.map_append,List.map_replicate];rw[List.take_append_of_le_length (by simp),List.take_of_length_le (by simp),List.drop_append,List.drop_of_length_le (by simp),List.nil_append,List.drop_replicate,List.length_replicate,←List.append_assoc,List.replicate_append_replicate];congr 2;omega
set_option maxRecDepth 100000 in
theorem repeat_any (b o c:Nat)(x:Int)(k:Nat)(hk1:1≤k)(hk:k≤500)(_hx:I64 x)(w:World)(hc:w.cell? ⟨b,o,none⟩=some (.int .i64 x)):
 Calls Tryz.prog 179 #[.slice (some ⟨b,o,none⟩) 1 c,.int .i64 (k:Int)] w fun e w'=>∃g,e=.returned (.slice (some ⟨g,0,none⟩) k k)∧w.heap.size≤g∧IRow w' g 3 (List.replicate k x)∧Below w.heap.size w w':=by
 have HM:=Lh (fun W=>mul1_any k hk W);have hk0:(0:Int)≤(k:Int):=by omega
 have hk5:(k:Int)≤500:=by omega
 have HC:=Lh hc;clear hc;go_enter Tryz.func179,Tryz.ntmps179;have HR0:Hid (IRow (w.alloc (.cells (madeCells #[Value.int .i64 0] k) 3)) w.heap.size 3 (List.replicate k 0)):=Lh (QbJ w k _)
 have HSR:Hid (IRow ((w.alloc (.cells (madeCells #[Value.int .i64 0] k) 3)).setRow w.heap.size (Value.int .i64 x::List.replicate (k-1) (Value.int .i64 0)).toArray) w.heap.size 3 (List.replicate 1 x++List.replicate (k-1) 0)):=Lh (by
  unfold IRow ABox
  rw[setRow_heap _ _ _ _ _ _ HR0.out]
  simp[List.replicate])
 have HB1:Hid (Below w.heap.size w ((w.alloc (.cells (madeCells #[Value.int .i64 0] k) 3)).setRow w.heap.size (Value.int .i64 x::List.replicate (k-1) (Value.int .i64 0)).toArray)):=Lh (QdG (bR.alloc nL _) nL _)
 go_wp2_with (first
  |(go_at_call 175;refine(HM.out _).mono ?_;rintro e w' ⟨rfl,rfl⟩)
  |(refine Qbq rfl 22 (.tmp 29) (.tmp 29) rfl 3 (.int .i64 0) 1 8 Tryz.underlying22 Qbf k rfl rfl (by omega) (by omega) ?_)
  |(refine wpList_copy_own rfl (.tmp 31) (.tmp 32) 22 22 rfl 3 Tryz.underlying22 (by kernel_rfl) w.heap.size 0 k k ⟨b,o,none⟩ 1 c rfl rfl _ 3 HR0.out [.int .i64 x] (by show 1=Nat.min 1 k;exact(Nat.min_eq_left hk1).symm) (fun j v hv=>by
     have hj:j=0:=by
      rcases j with _|j
      ·rfl
      ·simp at hv
     subst hj
     simp at hv
     subst hv
     exact((Below.refl w.heap.size w).alloc nL _).cell (p:=⟨b,o,none⟩) (World.block_lt_of_cell? w _ HC.out) |>.trans HC.out) (by simpa using hk1) (fun v hv=>by simp at hv;subst hv;rfl) ?_)
  |fail)
 go_loopw [8] (fun v wr=>∃n:Nat,1≤n∧n≤k∧v=.int .i64 (n:Int)∧Hid (IRow wr w.heap.size 3 (List.replicate n x++List.replicate (k-n) 0))∧Hid (Below w.heap.size w wr)) (fun v _=>k-(intOf v).toNat);(case atStart=>exact⟨1,Nat.le_refl _,hk1,rfl,HSR,HB1⟩);case round=>
  clear HSR HB1 HR0;obtain⟨n,hn1,hn2,rfl,HR,HB⟩:=hrel;by_cases hlt:n<k
  ·have hnk:(n:Int)<(k:Int):=by omega
   have hn0:(0:Int)≤(n:Int):=(by omega);go_upto_region 9 with(fail);refine Qaj (fun _=>True) (fun _=>true) (by kernel_rfl) ?_;have HRd:Hid (IRow wr.drew w.heap.size 3 (List.replicate n x++List.replicate (k-n) 0)):=Lh (HR.out.to bR.drew);have HBd:Hid (Below w.heap.size w wr.drew):=Lh (HB.out.trans bR.drew);clear HR HB;generalize wr.drew=wq at*;have hnk2:(n:Int)≤(k:Int):=(by omega);have hnk3:n≤k:=(by omega);have hkn:¬k=n:=by omega
   refine Qaa (i:=0) (oi:=⟨some 38,Op.move (.tmp 8),3,_,_,_⟩) (v:=?_) rfl (by kernel_rfl) (by kernel_rfl) (by kernel_rfl) (by kernel_rfl) (by kernel_rfl) (fun _ _ _ h=>h) (by rfl) ?zq0 trivial ?zq1;(case zq0=>intro _ s;clear s;go_simp;(try with_reducible rfl));(all_goals try go_frame);refine Qaa (i:=1) (oi:=⟨some 39,Op.move (.tmp 7),22,_,_,_⟩) (v:=?_) rfl (by kernel_rfl) (by kernel_rfl) (by kernel_rfl) (by kernel_rfl) (by kernel_rfl) (fun _ _ _ h=>h) (by rfl) ?zq2 trivial ?zq3;(case zq2=>intro _ s;clear s;go_simp;(try with_reducible rfl));(all_goals try go_frame);refine Qaa (i:=2) (oi:=⟨some 40,Op.move (.tmp 8),3,_,_,_⟩) (v:=?_) rfl (by kernel_rfl) (by kernel_rfl) (by kernel_rfl) (by kernel_rfl) (by kernel_rfl) (fun _ _ _ h=>h) (by rfl) ?zq4 trivial ?zq5;(case zq4=>intro _ s;clear s;go_simp;(try with_reducible rfl));(all_goals try go_frame);refine Qaa (i:=3) (oi:=⟨some 41,Op.slice 22 (.tmp 39) (some (.tmp 40)) none none,22,_,_,_⟩) (v:=?_) rfl (by kernel_rfl) (by kernel_rfl) (by kernel_rfl) (by kernel_rfl) (by kernel_rfl) (fun _ _ _ h=>h) (by rfl) ?zq6 trivial ?zq7;(case zq6=>intro _ s;clear s;go_simp;(try with_reducible rfl));(all_goals try go_frame);refine Qaa (i:=4) (oi:=⟨some 42,Op.move (.tmp 7),22,_,_,_⟩) (v:=?_) rfl (by kernel_rfl) (by kernel_rfl) (by kernel_rfl) (by kernel_rfl) (by kernel_rfl) (fun _ _ _ h=>h) (by rfl) ?zq8 trivial ?zq9;(case zq8=>intro _ s;clear s;go_simp;(try with_reducible rfl));(all_goals try go_frame);refine Qaa (i:=5) (oi:=⟨some 43,Op.move (.tmp 8),3,_,_,_⟩) (v:=?_) rfl (by kernel_rfl) (by kernel_rfl) (by kernel_rfl) (by kernel_rfl) (by kernel_rfl) (fun _ _ _ h=>h) (by rfl) ?zq10 trivial ?zq11;(case zq10=>intro _ s;clear s;go_simp;(try with_reducible rfl));(all_goals try go_frame);refine Qaa (i:=6) (oi:=⟨some 44,Op.slice 22 (.tmp 42) none (some (.tmp 43)) none,22,_,_,_⟩) (v:=?_) rfl (by kernel_rfl) (by kernel_rfl) (by kernel_rfl) (by kernel_rfl) (by kernel_rfl) (fun _ _ _ h=>h) (by rfl) ?zq12 trivial ?zq13;(case zq12=>intro _ s;clear s;go_simp;(try with_reducible rfl));(all_goals try go_frame);obtain⟨cn,hcn⟩:∃cn,cn=min n (k-n):=⟨_,rfl⟩;have hcn1:n+cn≤k:=(by omega);have hcn2:1≤cn:=(by omega);have hcn3:cn≤n:=(by omega);have HCN:=Lh hcn;clear hcn;have hw1:IntKind.i64.wrap ((n:Int)+(cn:Int))=(n:Int)+(cn:Int):=IntWalk.i64_in _ (by omega);refine tD 7 ⟨some 45,Op.call {callee:=Callee.builtin Builtin.copy,args:=#[Operand.tmp 41,Operand.tmp 44],argTypes:=#[22,22]},3,_,_,_⟩ rfl fun K hK=>?_
   refine wp_copy_own (.tmp 41) (.tmp 44) 22 22 rfl 3 Tryz.underlying22 (by kernel_rfl) w.heap.size n (k-n) (k-n) ⟨w.heap.size,0,none⟩ n k ?_ ?_ _ 3 HRd.out (List.replicate cn (.int .i64 x)) (by rw[List.length_replicate,HCN.out]) (fun j v hv=>?_) (by first|(simp;done)|(simp;omega)) (fun v hv=>by rw[List.eq_of_mem_replicate hv];rfl) ?_
   ·rfl
   ·rfl
   ·obtain⟨hj,hv2⟩:=List.getElem?_eq_some_iff.1 hv;rw[List.length_replicate] at hj;have e:v=.int .i64 x:=(by rw[←hv2];simp);rw[e,Addr.add_mid,Nat.zero_add];exact HRd.out.cell j (by rw[List.getElem?_append_left (by simp;omega),List.getElem?_replicate,if_pos (by omega)])
   rw[List.length_replicate,rep_copy x n k cn hcn1];have hq7:goInt cn=.int .i64 (cn:Int):=rfl;rw[hq7];refine hK _ _ (fun _=>trivial) ?_;clear hK K hq7;(try go_frame);have HRN:Hid (IRow (wq.setRow w.heap.size ((List.replicate (n+cn) x++List.replicate (k-(n+cn)) 0).map (Value.int .i64)).toArray) w.heap.size 3 (List.replicate (n+cn) x++List.replicate (k-(n+cn)) 0)):=Lh (setRow_heap _ _ _ _ _ _ HRd.out);have HBN:Hid (Below w.heap.size w (wq.setRow w.heap.size ((List.replicate (n+cn) x++List.replicate (k-(n+cn)) 0).map (Value.int .i64)).toArray)):=Lh (QdG HBd.out nL _);generalize wq.setRow w.heap.size ((List.replicate (n+cn) x++List.replicate (k-(n+cn)) 0).map (Value.int .i64)).toArray=wn at*;refine tD 8 ⟨some 46,Op.binOp BinOp.add 3 (.tmp 38) (.tmp 45) 3,3,_,_,_⟩ rfl fun K hK=>?_
   go_simp;refine hK _ _ (fun _=>trivial) ?_;clear hK K;(try go_frame);refine tD 9 ⟨some 8,Op.assign (.tmp 46),3,_,_,_⟩ rfl fun K hK=>?_
   go_simp;refine hK _ _ (fun _=>trivial) ?_;clear hK K;(try go_frame);refine Qae (by kernel_rfl) ?_ _;(try unfold Exit.then);go_wp2_with fail;go_roundw;(case rel=>exact⟨n+cn,by omega,hcn1,by go_num,HRN,HBN⟩);case measure=>(first|(simp[intOf];done)|(simp[intOf];omega))
  ·obtain rfl:n=k:=by omega
   go_wp2_with fail;go_ret;exact⟨w.heap.size,rfl,Nat.le_refl _,by have:=HR.out;rwa [Nat.sub_self,List.replicate_zero,List.append_nil] at this,HB.out⟩
def gapF (s k:Int)(i:Nat):Int:=6+s.tdiv k+if(i:Int)<s.tmod k then 1 else 0
theorem gapsP_eq {ws:List Int}{m:Int}{k:Nat}(h:ws.length=k+1)(hk:1≤k):Qeo ws m false=(List.range k).map (gapF (Qbc ws m) (k:Int)):=by
 unfold Qeo;rw[if_neg (by omega),if_neg (by simp)];have e:ws.length-1=k:=by omega
 rw[e];rfl
theorem gap_row (f:Nat→Int)(k j:Nat)(h:j<k):(((List.range j).map f)++List.replicate (k-j) 6).set j (f j)=((List.range (j+1)).map f)++List.replicate (k-(j+1)) 6:=by
 have e:k-j=(k-(j+1))+1:=by omega
 rw[List.set_append_right _ _ (by simp),e,List.replicate_succ,List.range_succ,List.map_append,List.append_assoc];simp
theorem gap_at (f:Nat→Int)(k j:Nat)(h:j<k):(((List.range j).map f)++List.replicate (k-j) 6)[j]? =some 6:=by
 have e:j-((List.range j).map f).length=0:=by simp
 rw[List.getElem?_append_right (by simp),e,List.getElem?_replicate,if_pos (by omega)]
set_option maxRecDepth 100000 in
theorem gaps_any (A:Option Addr)(c:Nat)(ws:List Int)(m:Int)(last:Bool)(w:World)(hs:Sl w (fun b=>b<w.heap.size) A c ws)(hr:Reg ws m):
 Calls Tryz.prog 136 #[.slice A ws.length c,.int .i64 m,.bool last] w fun e w'=>∃v,e=.returned v∧Own w' w.heap.size 3 v (Qeo ws m last)∧Below w.heap.size w w':=by
 have h3:ws.length≤500:=hr.n;by_cases hk:ws.length≤1
 ·have HG:Hid (Qeo ws m last=[]):=Lh (by unfold Qeo;rw[if_pos hk]);have hk2:(ws.length:Int)-1<1:=(by omega);have hk3:(0:Int)≤(ws.length:Int):=(by omega);clear hs hr hk;go_enter Tryz.func136,Tryz.ntmps136;go_wp2_with fail;go_ret;exact⟨_,rfl,by rw[HG.out];exact Own.nil _ _ _,Below.refl _ _⟩
 ·obtain⟨k,hkk⟩:∃k,ws.length=k+1:=⟨ws.length-1,by omega⟩;have hk1:1≤k:=(by omega);have hk5:k≤500:=(by omega);have hki:(ws.length:Int)-1=(k:Int):=(by omega);have hki1:¬(k:Int)<1:=(by omega);have HKK:=Lh hkk;have HR:=Lh hr;have HS:=Lh hs;have HSLK:=Lh (fun(W:World) (hW:Below w.heap.size w W)=>slack_any A c ws m W (hs.to hW) hr);have hsb:=QdV ws hr.w (m+6);have hs1:Qbc ws m≤2006:=(by have:=hr.hi;unfold Qbc;omega);have hs2: -300000≤Qbc ws m:=(by have:=hr.lo;unfold Qbc;omega);have HGE:=Lh (gapsP_eq (m:=m) hkk hk1);have HW1:Hid (Below w.heap.size w (w.alloc (.cells #[.int .i64 6] 3))):=Lh (bR.alloc nL _);have HRP:Hid (Calls Tryz.prog 179 #[.slice (some ⟨w.heap.size,0,none⟩) 1 1,.int .i64 (k:Int)] (w.alloc (.cells #[.int .i64 6] 3)) fun e w'=>∃g,e=.returned (.slice (some ⟨g,0,none⟩) k k)∧(w.alloc (.cells #[.int .i64 6] 3)).heap.size≤g∧IRow w' g 3 (List.replicate k 6)∧Below (w.alloc (.cells #[.int .i64 6] 3)).heap.size (w.alloc (.cells #[.int .i64 6] 3)) w'):=Lh (repeat_any w.heap.size 0 1 6 k hk1 hk5 (by unfold I64;omega) _ (cell_of_row _ _ 0 _ _ _ (heap_alloc_new w (.cells #[.int .i64 6] 3))));clear hs hr hk hkk hsb;generalize Qbc ws m=s at*;go_enter Tryz.func136,Tryz.ntmps136;go_wp2_with fail;refine HRP.out.mono ?_;rintro e w1 ⟨g,rfl,hg1,hg2,hb1⟩;have HGB:Hid (w.heap.size≤g):=Lh (by have:=HW1.out.size;omega);have HB1:=Lh (HW1.out.trans (hb1.mono HW1.out.size));have HI1:=Lh hg2;clear hg1 hg2 hb1 HRP HW1;cases last
  ·go_wp2_with fail;refine(HSLK.out w1 HB1.out).mono ?_;rintro e w2 ⟨rfl,rfl⟩;go_wp2_with fail;have HGE2:=Lh HGE.out;obtain⟨q,hq⟩:∃q,s.tdiv (k:Int)=q:=⟨_,rfl⟩;obtain⟨r,hr⟩:∃r,s.tmod (k:Int)=r:=⟨_,rfl⟩;have hqb: -300000≤q∧q≤300000:=by
    have h1:(s.tdiv (k:Int)).natAbs=s.natAbs/(k:Int).natAbs:=Int.natAbs_tdiv s k;have h2:=Nat.div_le_self s.natAbs (k:Int).natAbs;rw[hq] at h1;omega
   obtain⟨hq1,hq2⟩:=hqb;have HF:Hid (∀j:Nat,gapF s (k:Int) j=6+q+if(j:Int)<r then 1 else 0):=Lh (fun j=>by unfold gapF;rw[hq,hr]);have hk0:¬(k:Int)=0:=(by omega);have hk00:((k:Int)==0)=false:=(by rw[beq_eq_false_iff_ne];exact hk0);have hwq:IntKind.i64.wrap (s.tdiv (k:Int))=q:=(by rw[hq];exact IntWalk.i64_in _ (by omega));have hw6:IntKind.i64.wrap (6+q)=6+q:=IntWalk.i64_in _ (by omega);have HI2:Hid (IRow w1 g 3 ((List.range 0).map (gapF s (k:Int))++List.replicate (k-0) 6)):=Lh (by simpa using HI1.out);clear HGE HI1 HSLK;go_loopw [26] (fun v wr=>∃j:Nat,j≤k∧v=.int .i64 (j:Int)∧Hid (IRow wr g 3 ((List.range j).map (gapF s (k:Int))++List.replicate (k-j) 6))∧Hid (Below w.heap.size w wr)) (fun v _=>k-(intOf v).toNat);(case atStart=>exact⟨0,Nat.zero_le _,rfl,HI2,HB1⟩);case round=>
    clear HI2 HB1;obtain⟨j,hj,rfl,HI,HB⟩:=hrel;by_cases hlt:j<k
    ·have hjk:(j:Int)<(k:Int):=by omega
     have hj0:(0:Int)≤(j:Int):=(by omega);have HAT:=Lh (gap_at (gapF s (k:Int)) k j hlt);have HST:=Lh (gap_row (gapF s (k:Int)) k j hlt);go_upto_region 11 with(fail);refine Qap [] (fun i=>SP.any) 9 (by kernel_rfl) (by kernel_rfl) ?_;intro T _ g1 hg hgm;have c0:∀d,(g1 d).cell? ⟨g,j,none⟩=some (.int .i64 6):=fun d=>(HI.out.to (hg d)).cell j HAT.out
     (repeat(refine Qao (by rfl) fun Kq hq=>?_;go_big_quiet_step (fail);refine wpQuiet_nil (hq _ ?_);clear hq Kq));refine QbZ 1 (by rfl) (by rfl) (fun d hG=>?_);have HId:=Lh (HI.out.to (hg d));have HBd:Hid (Below w.heap.size w (g1 d)):=Lh (HB.out.trans ((hg d).mono HB.out.size));have c1:=c0 d;have f1:=HId.out.fz j;clear c0 hG hg hgm HI HB;generalize g1 d=wx at*;clear g1;refine QaN (i:=9) (oi:=_) rfl (by kernel_rfl) (by rfl) (fun K hK=>?_);go_simp;refine hK _ _ ?_;clear hK K;(try go_frame);refine wpAny_done (by kernel_rfl) ?_ _;(try unfold Exit.then);have HI3:Hid (IRow (wx.setCell ⟨g,j,none⟩ (.int .i64 (6+q))) g 3 ((((List.range j).map (gapF s (k:Int)))++List.replicate (k-j) 6).set j (6+q))):=Lh (HId.out.set j (6+q));have HB3:Hid (Below w.heap.size w (wx.setCell ⟨g,j,none⟩ (.int .i64 (6+q)))):=Lh (HBd.out.setCell (p:=⟨g,j,none⟩) HGB.out _);clear c1 f1 HId HBd;generalize wx.setCell ⟨g,j,none⟩ (.int .i64 (6+q))=wy at*;by_cases hjr:(j:Int)<r
     ·have HN:Hid (((((List.range j).map (gapF s (k:Int)))++List.replicate (k-j) 6).set j (6+q)).set j (6+q+1)=((List.range (j+1)).map (gapF s (k:Int)))++List.replicate (k-(j+1)) 6):=Lh (by
       rw[List.set_set,←HST.out,HF.out,if_pos hjr])
      have c2:wy.cell? ⟨g,j,none⟩=some (.int .i64 (6+q)):=HI3.out.cell j (by rw[List.getElem?_set_self];simp;omega);have f2:=HI3.out.fz j;have HI4:=Lh (HI3.out.set j (6+q+1));have HB4:Hid (Below w.heap.size w (wy.setCell ⟨g,j,none⟩ (.int .i64 (6+q+1)))):=Lh (HB3.out.setCell (p:=⟨g,j,none⟩) HGB.out _);go_wp2_with fail;go_roundw;(case rel=>exact⟨j+1,by omega,by go_num,Lh (by rw[←HN.out];exact HI4.out),HB4⟩);case measure=>(first|(simp[intOf];done)|(simp[intOf];omega))
     ·have HN:Hid ((((List.range j).map (gapF s (k:Int)))++List.replicate (k-j) 6).set j (6+q)=((List.range (j+1)).map (gapF s (k:Int)))++List.replicate (k-(j+1)) 6):=Lh (by
       rw[←HST.out,HF.out,if_neg hjr,Int.add_zero])
      go_wp2_with fail;go_roundw;(case rel=>exact⟨j+1,by omega,by go_num,Lh (by rw[←HN.out];exact HI3.out),HB3⟩);case measure=>(first|(simp[intOf];done)|(simp[intOf];omega))
    ·obtain rfl:j=k:=by omega
     go_wp2_with fail;go_ret;have hrow:IRow wr g 3 ((List.range j).map (gapF s (j:Int))):=by have:=HI.out;rwa [Nat.sub_self,List.replicate_zero,List.append_nil] at this
     have hown:=hrow.own HGB.out (fun y hy=>by
      obtain⟨i,_,rfl⟩:=List.mem_map.1 hy
      rw[HF.out];unfold I64;split<;>omega) (by simp;unfold maxLen;omega)
     rw[qM,List.length_range] at hown;exact⟨_,rfl,by rw[HGE2.out];exact hown,HB.out⟩
  ·have HGT:Hid (Qeo ws m true=List.replicate k 6):=Lh (by
    have h:=HKK.out
    unfold Qeo;rw[if_neg (by omega),if_pos rfl];congr 1;omega)
   go_wp2_with fail;go_ret;have hown:=HI1.out.own HGB.out (fun y hy=>by rw[List.eq_of_mem_replicate hy];unfold I64;omega) (by rw[List.length_replicate];unfold maxLen;omega);rw[List.length_replicate] at hown;exact⟨_,rfl,by rw[HGT.out];exact hown,HB1.out⟩
structure Bd (α:Type)(B:Nat) where
 x:α
instance instRepBd (α:Type)[Rep α](B:Nat):Rep (Bd α B) where
 size:=Rep.size α
 R w S cs y:=Rep.R w (fun b=>S b∧B≤b) cs y.x
 len h:=Rep.len (α:=α) h
 one h:=Rep.one (α:=α) h
 keep h hk:=Rep.keep (α:=α) h (fun i hi hlt=>hk i hi.1 hlt)
 mono h hS:=Rep.mono (α:=α) h (fun i hi hlt=>⟨hS i hi.1 hlt,hi.2⟩)
section
variable {α:Type} [Rep α] {w:World} {base B n c:Nat} {e:TypeId} {v:Value} {A:Option Addr}
theorem bd_sl {l:List (Bd α B)}(h:Own w base e v l)(hB:B≤base):∃A c,v=.slice A (l.map Bd.x).length c∧Sl w (fun b=>b<w.heap.size∧B≤b) A c (l.map Bd.x):=by
 obtain⟨A,c,rfl,hs⟩:=h.sl;refine⟨A,c,by rw[qM],by rw[qM];exact hs.1,hs.2.1,fun h0=>?_⟩;rw[qM] at h0;obtain⟨b,o,rfl,hb,hlt,hx⟩:=hs.2.2 h0;refine⟨b,o,rfl,⟨hb,Nat.le_trans hB (h.lt b rfl).1⟩,hlt,fun i hi=>?_⟩;rw[qM] at hi;obtain⟨es,hr,hc⟩:=hx i hi;rw[List.getElem_map];exact⟨es,hr,hc⟩
end
section
variable {α:Type} [Rep α]
theorem Qc2 (z:Array Value)(n k:Nat):(madeCells z n).toList[k]? =if k<n then some (z[k%z.size]!) else none:=by
 unfold madeCells;by_cases h:k<n
 ·simp[h]
 ·simp[h]
theorem own_made (w:World){base n:Nat}{e:TypeId}{z:Array Value}{x:α}(hB:base≤w.heap.size)(hn:n≤maxLen)(hz:z.size=Rep.size α)(h0:0<Rep.size α)(h1:∀u∈z.toList,u.oneCell'=true) (hr:∀(W:World) (S:Nat→Prop),Rep.R W S z.toList x):Own (w.alloc (.cells (madeCells z (n*Rep.size α)) e)) base e (.slice (some ⟨w.heap.size,0,none⟩) n n) (List.replicate n x):=by
 have hsz:(madeCells z (n*Rep.size α)).size=n*Rep.size α:=size_madeCells _ _;have hlen:(madeCells z (n*Rep.size α)).toList.length=n*Rep.size α:=by rw[Array.length_toList,hsz]
 refine⟨(madeCells z (n*Rep.size α)).toList,⟨by rw[List.length_replicate];exact hlen,.inr ⟨w.heap.size,n,madeCells z (n*Rep.size α),by rw[List.length_replicate],hB,heap_alloc_new w _,by rw[List.length_replicate];exact Nat.le_refl _,hn,hsz,by rw[List.length_replicate];exact List.take_of_length_le (by omega)⟩⟩,?_,fun i hi=>?_⟩
 ·intro u hu;obtain⟨k,hk⟩:=List.getElem?_of_mem hu;rw[Qc2 z _ k] at hk;split at hk
  ·have hm:k%z.size<z.size:=Nat.mod_lt _ (by omega);have:u=z[k%z.size]:=by
    rw[getElem!_pos z _ hm] at hk;exact(Option.some.inj hk).symm
   rw[this];exact h1 _ (by simp)
  ·cases hk
 ·rw[List.length_replicate] at hi;rw[List.getElem_replicate];have ht:(((madeCells z (n*Rep.size α)).toList.drop (i*Rep.size α)).take (Rep.size α))=z.toList:=by
   apply List.ext_getElem?;intro k;rw[List.getElem?_take,List.getElem?_drop,Qc2 z _ _];by_cases hk:k<Rep.size α
   ·have h2:(i+1)*Rep.size α≤n*Rep.size α:=Nat.mul_le_mul_right _ hi;rw[Nat.add_mul,Nat.one_mul] at h2;have hmod:(i*Rep.size α+k)%z.size=k:=by
     rw[hz,Nat.add_comm,Nat.add_mul_mod_self_right];exact Nat.mod_eq_of_lt hk
    rw[if_pos hk,if_pos (by omega),hmod,getElem!_pos z k (by omega)];first|(simp;done)|(simp;omega)
   ·rw[if_neg hk,List.getElem?_eq_none (by rw[Array.length_toList];omega)]
  rw[ht];exact hr _ _
end
theorem Own.slv {α:Type}[Rep α]{w:World}{base n:Nat}{e:TypeId}{A:Option Addr}{c:Nat}{l:List α}(h:Own w base e (.slice A n c) l)(hn:n=l.length):Sl w (fun b=>b<w.heap.size) A c l:=by
 subst hn;obtain⟨A',c',e',hs⟩:=h.sl;cases e';exact hs
def endsOk:Nat→Nat→List Nat→Prop
 |_,_,[]=>True
 |fr,n,e::es=>fr<e∧e≤n∧endsOk e n es
theorem chainE_ok (es:List Nat)(n:Nat)(he:∀i,i<n→i<es.getD i 0∧es.getD i 0≤n):∀f i,i≤n→endsOk i n (chainE es n f i)
 |0,_,_=>trivial
 |f+1,i,hi=>by
  rw[chainE];split
  ·obtain⟨h1,h2⟩:=he i (by assumption);exact⟨h1,h2,chainE_ok es n he f _ h2⟩
  ·trivial
theorem endsP_he {ws:List Int}{m:Int}(hr:Reg ws m):∀i,i<ws.length→i<((bestL ws m ws.length).map (·.2)).getD i 0∧((bestL ws m ws.length).map (·.2)).getD i 0≤ws.length:=fun i hi=>by
 have e:((bestL ws m ws.length).map (·.2)).getD i 0=(bestAt ws m i).2:=by
  unfold bestAt;rw[List.getD_eq_getElem?_getD,List.getD_eq_getElem?_getD,List.getElem?_map,qG (by rw[QbA];omega)];rfl
 rw[e];exact bestAt_end hr i hi
theorem endsP_ok {ws:List Int}{m:Int}(hr:Reg ws m):endsOk 0 ws.length (endsP ws m):=chainE_ok _ _ (endsP_he hr) _ _ (Nat.zero_le _)
theorem endsP_len {ws:List Int}{m:Int}(hr:Reg ws m):(endsP ws m).length≤ws.length:=(Qc4 _ _ (endsP_he hr) ws.length 0 (by omega) (Nat.zero_le _)).2.2.2.2
theorem Reg.cut {ws:List Int}{m:Int}(hr:Reg ws m)(i j:Nat):Reg (Qef ws i j) m:=
 ⟨by have:=hr.n;unfold Qef;simp;omega,hr.lo,hr.hi,fun x hx=>hr.w x (by unfold Qef at hx;exact List.mem_of_mem_take (List.mem_of_mem_drop hx))⟩
instance:Flat Int:=⟨fun h=>h⟩
structure Ap (base O:Nat)(w w':World):Prop where
 os:w'.os=w.os
 tape:w'.tape=w.tape
 output:w'.output=w.output
 size:w.heap.size≤w'.heap.size
 block:∀k,k<base→k≠O→w'.heap[k]? =w.heap[k]?
theorem Ap.refl (base O:Nat)(w:World):Ap base O w w:=⟨rfl,rfl,rfl,Nat.le_refl _,fun _ _ _=>rfl⟩
theorem Ap.trans {base O:Nat}{a b c:World}(h:Ap base O a b)(k:Ap base O b c):Ap base O a c:=⟨k.os.trans h.os,k.tape.trans h.tape,k.output.trans h.output,Nat.le_trans h.size k.size,fun i hi ho=>(k.block i hi ho).trans (h.block i hi ho)⟩
theorem Ap.of {base O:Nat}{a b:World}(h:Below base a b):Ap base O a b:=⟨h.os,h.tape,h.output,h.size,fun i hi _=>h.block i hi⟩
theorem Ap.below {base O B:Nat}{a b:World}(h:Ap base O a b)(hB:B≤O)(hb:O≤base):Below B a b:=⟨h.os,h.tape,h.output,h.size,fun i hi=>h.block i (by omega) (by omega)⟩
structure LBx (w:World)(O base:Nat)(t:TypeId)(c0 c1 c2 v:Value)(N:List Int):Prop where
 o:ABox w O t [c0,c1,c2,v]
 n:Own w base 3 v N
 ob:O<base
 sz:base≤w.heap.size
theorem LBx.below {w w':World}{O base:Nat}{t:TypeId}{c0 c1 c2 v:Value}{N:List Int}(h:LBx w O base t c0 c1 c2 v N)(hb:Below w.heap.size w w'):LBx w' O base t c0 c1 c2 v N:=
 ⟨h.o.to hb,h.n.below hb,h.ob,Nat.le_trans h.sz hb.size⟩
theorem LBx.push {w w5:World}{O base:Nat}{t:TypeId}{c0 c1 c2 v v5:Value}{N N5:List Int}(h:LBx w O base t c0 c1 c2 v N)(hown:Own w5 base 3 v5 N5)(hg:w.grownBy w5 v.ownBlock):
 ABox w5 O t [c0,c1,c2,v]∧LBx (w5.setCell ⟨O,3,none⟩ v5) O base t c0 c1 c2 v5 N5∧Ap base O w (w5.setCell ⟨O,3,none⟩ v5):=by
 have hO:=h.ob;have hb:Below base w w5:=(Below.refl base w).grown hg h.sz (fun k hk=>(h.n.lt k hk).1);have hbx:ABox w5 O t [c0,c1,c2,v]:=(hb.block O hO).trans h.o;refine⟨hbx,⟨hbx.set 3 v5,hown.at_blocks (fun g _ e=>Qac _ _ _ _ (fun e2=>?_)),h.ob,?_⟩,?_⟩
 ·have:=(hown.lt g e).1;omega
 ·have:=h.sz;have:=hb.size;simp;omega
 ·exact⟨hb.os,hb.tape,hb.output,by have:=hb.size;simpa using this,fun k hk hne=>(Qac _ _ _ _ hne).trans (hb.block k hk)⟩
theorem notesP_step (l:List Word)(k:Nat)(x:Word)(h:l[k]? =some x):QaT (l.take (k+1))=if x.n≠0 then QaT (l.take k)++[x.n-1] else QaT (l.take k):=by
 have hk:=(List.getElem?_eq_some_iff.1 h).1;have e:l[k]=x:=(List.getElem?_eq_some_iff.1 h).2;unfold QaT;rw[qT hk,e,List.filter_append,List.map_append];by_cases hx:x.n=0
 ·simp[hx]
 ·simp[hx]
theorem cutL_len {α:Type}(l:List α){i j:Nat}(h:i≤j)(hj:j≤l.length):(Qef l i j).length=j-i:=by unfold Qef;simp;omega
theorem notesP_len (l:List Word):(QaT l).length≤l.length:=by unfold QaT;rw[qM];exact List.length_filter_le _ _
theorem Own.sl_at {α:Type}[Rep α][Flat α]{w:World}{base n:Nat}{e:TypeId}{A:Option Addr}{c:Nat}{l:List α}(h:Own w base e (.slice A n c) l)(hn:n=l.length):Sl w (fun b=>base≤b∧b<w.heap.size) A c l:=by
 have hs:=h.slv hn;refine⟨hs.1,hs.2.1,fun h0=>?_⟩;obtain⟨b,o,rfl,hb,hlt,hx⟩:=hs.2.2 h0;refine⟨b,o,rfl,⟨(h.lt b rfl).1,hlt⟩,hlt,fun i hi=>?_⟩;obtain⟨es,hr,hc⟩:=hx i hi;exact⟨es,Flat.flat hr,hc⟩
theorem QcC {w:World}{base n c:Nat}{A:Option Addr}{e:TypeId}{l:List Int}{S:Nat→Prop}(h:Own w base e (.slice A n c) l)(hn:n=l.length)(hS:∀b,base≤b→S b):Rep.R w S [.slice A n c] l:=by
 subst hn;exact⟨A,c,rfl,(h.sl_at rfl).mono (fun i hi _=>hS i hi.1),by have h1:=h.form;obtain⟨_,_,_,_,h2,h3⟩:=h1;unfold maxLen at h3;omega⟩
theorem lines_set (done:List LineP)(r:Nat)(x:LineP){B k:Nat}(hk:done.length=k):((done++List.replicate (r+1) (⟨0,0,[],[]⟩:LineP)).map (Bd.mk:LineP→Bd LineP B)).set k ⟨x⟩=(((done++[x])++List.replicate r (⟨0,0,[],[]⟩:LineP)).map (Bd.mk:LineP→Bd LineP B)):=by
 subst hk;rw[←List.map_set,List.set_append_right _ _ nL,Nat.sub_self,List.replicate_succ,List.append_assoc];rfl
theorem Qda:(Tryz.prog.info? 56).map (fun i=>(i.zero,i.size,i.bytes))=some (some (.agg #[.int .i64 0,.int .i64 0,.slice none 0 0,.slice none 0 0]),4,64):=by kernel_rfl
theorem wid_row (l:List Word)(j:Nat)(h:j<l.length):(((Qah l).take j)++List.replicate (l.length-j) 0).set j (QaR l[j].s)=((Qah l).take (j+1))++List.replicate (l.length-(j+1)) 0:=by
 have hl:((Qah l).take j).length=j:=by unfold Qah;simp;omega
 have e:l.length-j=(l.length-(j+1))+1:=by omega
 have hw:(Qah l).take (j+1)=(Qah l).take j++[QaR l[j].s]:=by
  unfold Qah;rw[qT (by simpa using h),List.getElem_map]
 rw[List.set_append_right _ _ (by omega),hl,Nat.sub_self,e,List.replicate_succ,hw,List.append_assoc];rfl
theorem wid_at (l:List Word)(j:Nat)(h:j<l.length):(((Qah l).take j)++List.replicate (l.length-j) 0)[j]? =some 0:=by
 have hl:((Qah l).take j).length=j:=by unfold Qah;simp;omega
 rw[List.getElem?_append_right (by omega),hl,Nat.sub_self,List.getElem?_replicate,if_pos (by omega)]
set_option maxRecDepth 100000 in
theorem set_any (A:Option Addr)(c:Nat)(l:List Word)(first m:Int)(w:World)(hs:Sl w (fun b=>b<w.heap.size) A c l)(hT:Laid w)(hr:Reg (Qah l) m)(hf0:0≤first)(hf1:first≤1000000)(hno:∀x∈l,0≤x.n∧x.n≤1000000):
 Calls Tryz.prog 90 #[.slice A l.length c,.int .i64 first,.int .i64 m] w fun e w'=>∃v,e=.returned v∧Own w' w.heap.size 56 v ((setP l first m).map (Bd.mk:LineP→Bd LineP w.heap.size))∧Below w.heap.size w w':=by
 have hwl:(Qah l).length=l.length:=by unfold Qah;rw[qM]
 have h3:l.length≤500:=by have:=hr.n;omega
 have HS:=Lh hs;have HT:=Lh hT;have HR:=Lh hr;have HNO:=Lh hno;have HWL:=Lh hwl;clear hs hT hr hno hwl;go_enter Tryz.func90,Tryz.ntmps90;have HR0:Hid (IRow (w.alloc (.cells (madeCells #[Value.int .i64 0] l.length) 3)) w.heap.size 3 (((Qah l).take 0)++List.replicate (l.length-0) 0)):=Lh (QbJ w l.length _);have HB0:Hid (Below w.heap.size w (w.alloc (.cells (madeCells #[Value.int .i64 0] l.length) 3))):=Lh (bR.alloc nL _)
 go_wp2_with (first|(refine Qbq rfl 22 (.tmp 20) (.tmp 20) rfl 3 (.int .i64 0) 1 8 Tryz.underlying22 Qbf l.length rfl rfl (by omega) (by omega) ?_)|fail)
 go_loopw [24] (fun v wr=>∃j:Nat,j≤l.length∧v=.int .i64 (j:Int)∧Hid (IRow wr w.heap.size 3 (((Qah l).take j)++List.replicate (l.length-j) 0))∧Hid (Below w.heap.size w wr)) (fun v _=>l.length-(intOf v).toNat);(case atStart=>exact⟨0,Nat.zero_le _,rfl,HR0,HB0⟩);case round=>
  clear HR0 HB0;obtain⟨j,hj,rfl,HI,HB⟩:=hrel;by_cases hlt:j<l.length
  ·have hjk:(j:Int)<(l.length:Int):=by omega
   have hj0:(0:Int)≤(j:Int):=(by omega);obtain⟨b,o,rfl,-,hbl,-,e0,e1,e2,e3⟩:=Qdt (HS.out.to HB.out) hlt;have HWA:=Lh (wid_at l j hlt);have HWR:=Lh (wid_row l j hlt);obtain⟨x,hx⟩:∃x,l[j]=x:=⟨_,rfl⟩;rw[hx] at e0 e1 e2 e3 HWR;clear hx hbl;have hba:Below wr.heap.size wr (wr.alloc (.cells #[.string x.s,.string x.key,.int .i64 x.t,.int .i64 x.n] 66)):=bR.alloc nL _;have HI1:=Lh (HI.out.to hba);have HB1:=Lh (HB.out.trans (hba.mono HB.out.size));have HWW:=Lh (QeX x.s _ (HT.out.to HB1.out));have c1:=HI1.out.cell j HWA.out;have f1:=HI1.out.fz j;have HI2:=Lh (HI1.out.set j (QaR x.s));have HB2:Hid (Below w.heap.size w ((wr.alloc (.cells #[.string x.s,.string x.key,.int .i64 x.t,.int .i64 x.n] 66)).setCell ⟨w.heap.size,j,none⟩ (.int .i64 (QaR x.s)))):=Lh (HB1.out.setCell (p:=⟨w.heap.size,j,none⟩) nL _);rw[HWR.out] at HI2;clear hba HI HB HI1 HB1 HWA HWR;go_wp2_with (first|(go_at_call 33;refine HWW.out.mono ?_;rintro e w' ⟨rfl,rfl⟩)|fail);go_roundw;(case rel=>exact⟨j+1,by omega,by go_num,HI2,HB2⟩);case measure=>(first|(simp[intOf];done)|(simp[intOf];omega))
  ·have HIW:Hid (IRow wr w.heap.size 3 (Qah l)):=Lh (by
    have h:=HI.out
    have hj2:j=l.length:=(by omega)
    rw[hj2,Nat.sub_self,List.replicate_zero,List.append_nil,List.take_of_length_le (by have:=HWL.out;omega)] at h;exact h)
   have HOW:Hid (Own wr w.heap.size 3 (.slice (some ⟨w.heap.size,0,none⟩) l.length l.length) (Qah l)):=Lh (by
    have h:=HIW.out.own nL (fun y hy=>by have:=HR.out.w y hy;unfold I64;omega) (by have:=HWL.out;unfold maxLen;omega)
    rwa [HWL.out] at h)
   have HSW:Hid (Sl wr (fun b=>b<wr.heap.size) (some ⟨w.heap.size,0,none⟩) l.length (Qah l)):=Lh (HOW.out.slv HWL.out.symm);have HEN:=Lh (ends_any (some ⟨w.heap.size,0,none⟩) l.length (Qah l) m wr HSW.out HR.out);rw[HWL.out] at HEN;clear HI HOW;go_wp2_with fail;refine HEN.out.mono ?_;rintro e w1 ⟨v1,rfl,ho1,hb1⟩;obtain⟨es,hes⟩:∃es,endsP (Qah l) m=es:=⟨_,rfl⟩;have hok:=endsP_ok HR.out;have hel:=endsP_len HR.out;rw[hes] at hok hel ho1;rw[HWL.out] at hok hel;have HES:=Lh hes;have HOK:=Lh hok;have hel5:es.length≤500:=(by omega);have HB1:=Lh (HB.out.trans (hb1.mono HB.out.size));have HIW1:=Lh (HIW.out.to hb1);have HG1:Hid (w.heap.size≤w1.heap.size):=Lh HB1.out.size;obtain⟨A1,c1,rfl,hs1⟩:=ho1.sl;rw[qM];have HS1:=Lh hs1;have hmk:=own_made (α:=Bd LineP w.heap.size) w1 (base:=w.heap.size) (n:=es.length) (e:=56) (z:=#[.int .i64 0,.int .i64 0,.slice none 0 0,.slice none 0 0]) (x:=⟨⟨0,0,[],[]⟩⟩) HG1.out (by unfold maxLen;omega) rfl (show 0<4 by omega) (by simp[Value.oneCell']) (fun W S=>⟨_,_,rfl,⟨none,0,rfl,Sl.nil _ _ _ _ (Nat.zero_le _),by show 0<9223372036854775808;omega⟩,⟨none,0,rfl,Sl.nil _ _ _ _ (Nat.zero_le _),by show 0<9223372036854775808;omega⟩⟩);have HO1:=Lh hmk;have hba:Below w1.heap.size w1 (w1.alloc (.cells (madeCells #[.int .i64 0,.int .i64 0,.slice none 0 0,.slice none 0 0] (es.length*Rep.size (Bd LineP w.heap.size))) 56)):=bR.alloc nL _;have HS2:=Lh (HS1.out.to hba);have HIW2:=Lh (HIW1.out.to hba);have HB2:=Lh (HB1.out.trans (hba.mono HB1.out.size));clear hes hok hel ho1 hb1 hs1 hmk hba HSW HEN HIW HB
   go_wp2_with (first|(refine Qbq rfl 41 (.tmp 43) (.tmp 43) rfl 56 (.agg #[.int .i64 0,.int .i64 0,.slice none 0 0,.slice none 0 0]) 4 64 Tryz.underlying41 Qda es.length rfl rfl (by omega) (by omega) ?_)|fail)
   have HP0:Hid (setP l first m=[]++QaA l (Qah l) m first 0 es):=Lh (by unfold setP;rw[HES.out];rfl);have HO2:Hid (Own (w1.alloc (.cells (madeCells #[.int .i64 0,.int .i64 0,.slice none 0 0,.slice none 0 0] (es.length*4)) 56)) w.heap.size 56 (.slice (some ⟨w1.heap.size,0,none⟩) es.length es.length) ((([]:List LineP)++List.replicate es.length (⟨0,0,[],[]⟩:LineP)).map (Bd.mk:LineP→Bd LineP w.heap.size))):=Lh (by rw[List.nil_append,List.map_replicate];exact HO1.out);have hba:Below w1.heap.size w1 (w1.alloc (.cells (madeCells #[.int .i64 0,.int .i64 0,.slice none 0 0,.slice none 0 0] (es.length*4)) 56)):=bR.alloc nL _;have HBA:=Lh hba;have HG2:Hid (w1.heap.size<(w1.alloc (.cells (madeCells #[.int .i64 0,.int .i64 0,.slice none 0 0,.slice none 0 0] (es.length*4)) 56)).heap.size):=Lh (by simp);clear hba HO1 HB2 HS2 HIW2;generalize w1.alloc (.cells (madeCells #[.int .i64 0,.int .i64 0,.slice none 0 0,.slice none 0 0] (es.length*4)) 56)=w2 at*
   go_loopw [13,47] (fun vf vi wr2=>∃(dn rest:List Nat) (done:List LineP) (fr:Nat),vf=.int .i64 (fr:Int)∧vi=.int .i64 (dn.length:Int)∧Hid (es=dn++rest)∧Hid (done.length=dn.length)∧Hid (setP l first m=done++QaA l (Qah l) m first fr rest)∧fr≤l.length∧Hid (endsOk fr l.length rest)∧ Hid (Own wr2 w.heap.size 56 (.slice (some ⟨w1.heap.size,0,none⟩) es.length es.length) ((done++List.replicate rest.length (⟨0,0,[],[]⟩:LineP)).map (Bd.mk:LineP→Bd LineP w.heap.size)))∧Hid (Below w1.heap.size w1 wr2∧w1.heap.size<wr2.heap.size)) (fun _ vi _=>es.length-(intOf vi).toNat)
   (case atStart=>exact⟨[],es,[],0,rfl,rfl,Lh rfl,Lh rfl,HP0,Nat.zero_le _,HOK,HO2,Lh ⟨HBA.out,HG2.out⟩⟩);case round=>
    clear HP0 HO2 HOK HBA HG2;clear w2;obtain⟨dn,rest,done,fr,rfl,rfl,HE2,HDL,HP,hfr,HOK,HO,HBw⟩:=hrel;have HLN:Hid (es.length=dn.length+rest.length):=Lh (by rw[HE2.out,qA]);cases rest with
    |nil=>
     have hge:¬(dn.length:Int)<(es.length:Int):=(by have:=HLN.out;rw[List.length_nil] at this;omega);go_wp2_with fail;go_ret;refine⟨_,rfl,?_,HB1.out.trans (HBw.out.1.mono HB1.out.size)⟩;have h1:=HO.out;have h2:=HP.out;rw[QaA,List.append_nil] at h2;rw[List.length_nil,List.replicate_zero,List.append_nil,←h2] at h1;have h3:es.length=((setP l first m).map (Bd.mk:LineP→Bd LineP w.heap.size)).length:=by
      obtain⟨A',c',e',_⟩:=h1.form;injection e'
     exact h1
    |cons e rest=>
     have hlt:(dn.length:Int)<(es.length:Int):=(by have:=HLN.out;rw[qC] at this;omega);have hn0:(0:Int)≤(dn.length:Int):=(by omega);obtain⟨h1,h2,hok2⟩:=HOK.out;have HOK2:=Lh hok2;have HSE:Hid (Sl ‹World› (fun b=>b<w1.heap.size) A1 c1 (es.map (fun(n:Nat)=>(n:Int)))):=Lh (HS1.out.keep (Kept.below HBw.out.1 (fun i hi=>hi)) HBw.out.1.size);have HI2:Hid (IRow wr w.heap.size 3 (Qah l)):=Lh ((HBw.out.1.block w.heap.size HIW1.out.lt).trans HIW1.out);obtain⟨b1,o1,hA1,-,-,-,ce⟩:=Qcf HSE.out (k:=dn.length) (by have:=HLN.out;simp at this ⊢;omega)
     have hce:(es.map (fun(n:Nat)=>(n:Int)))[dn.length]'(by have:=HLN.out;simp at this ⊢;omega)=(e:Int):=by
      simp[HE2.out]
     rw[hce] at ce;have HFI:Hid ((0:Int)≤fr∧(fr:Int)<e∧(e:Int)≤l.length):=Lh ⟨by omega,by omega,by omega⟩;have hwf:IntKind.i64.wrap (first+(fr:Int))=first+(fr:Int):=IntWalk.i64_in _ (by omega)
     have hwe:IntKind.i64.wrap (first+(e:Int))=first+(e:Int):=IntWalk.i64_in _ (by omega)
     have hfe:(fr:Int)≤(e:Int):=(by omega);have hel:(e:Int)≤(l.length:Int):=(by omega);have hf0':(0:Int)≤(fr:Int):=(by omega);obtain⟨last,hlast⟩:∃last:Bool,decide (rest=[])=last:=⟨_,rfl⟩;have hlq:(((dn.length:Int))==(es.length:Int)-1)=last:=by
      rw[←hlast,Bool.eq_iff_iff,beq_iff_eq,decide_eq_true_iff,HLN.out,qC,←List.length_eq_zero_iff];clear hwf hwe;omega
     have HLA:=Lh hlast;clear hlast hce hok2 h1 h2 HS1 HLN HOK;subst hA1;have hne:¬e=fr:=by have:=HFI.out;intro h;omega
     have HSW2:Hid (Sl wr (fun b=>b<wr.heap.size) (some ⟨w.heap.size,fr,none⟩) (e-fr) (Qef (Qah l) fr e)):=Lh (by
      have hown:=HI2.out.own (B:=0) (Nat.zero_le _) (fun y hy=>by have:=HR.out.w y hy;unfold I64;omega) (by have:=HWL.out;unfold maxLen;omega)
      have hs:=(hown.slv rfl).take e (by have:=HWL.out;omega)
      have hs2:Sl wr (fun b=>b<wr.heap.size) (some ⟨w.heap.size,0,none⟩) e ((Qah l).take e):=⟨by rw[qK];omega,by unfold maxLen;omega,hs.2.2⟩
      have hs3:=hs2.drop fr (by rw[qK];have:=HWL.out;omega)
      rw[if_neg hne] at hs3
      unfold Qef;simpa[Qaw,Rep.size] using hs3)
     have HGA:=Lh (gaps_any (some ⟨w.heap.size,fr,none⟩) (e-fr) (Qef (Qah l) fr e) m last wr HSW2.out (HR.out.cut fr e));have hcl:(Qef (Qah l) fr e).length=e-fr:=cutL_len _ (by omega) (by have:=HWL.out;omega);rw[hcl] at HGA;clear hcl HSW2;obtain⟨gp,hgp⟩:∃gp,Qeo (Qef (Qah l) fr e) m last=gp:=⟨_,rfl⟩;rw[hgp] at HGA;have HGP:=Lh hgp;clear hgp
     go_upto_region 14 with(first|(go_at_call 136;refine HGA.out.mono ?_;rintro e' w3 ⟨v3,rfl,ho3,hb3⟩;obtain⟨A3,c3,rfl,-⟩:=ho3.form)|fail)
     have hba:Below w3.heap.size w3 (w3.alloc (.cells #[.int .i64 (first+(fr:Int)),.int .i64 (first+(e:Int)),.slice A3 gp.length c3,.slice none 0 0] 56)):=bR.alloc nL _;have HL0:Hid (LBx (w3.alloc (.cells #[.int .i64 (first+(fr:Int)),.int .i64 (first+(e:Int)),.slice A3 gp.length c3,.slice none 0 0] 56)) w3.heap.size (w3.heap.size+1) 56 (.int .i64 (first+(fr:Int))) (.int .i64 (first+(e:Int))) (.slice A3 gp.length c3) (.slice none 0 0) []):=Lh ⟨heap_alloc_new _ _,Own.nil _ _ _,Nat.lt_succ_self _,by simp⟩;have HBA:=Lh hba;have HO3:=Lh ho3;have HB3:=Lh hb3;have HB13:Hid (Below w.heap.size w w3):=Lh (HB1.out.trans ((HBw.out.1.trans (hb3.mono (Nat.le_of_lt HBw.out.2))).mono HB1.out.size));obtain⟨ba,oa,rfl,-⟩:=HS.out.2.2 (by have:=HFI.out;omega);have hcl:l.length≤c:=HS.out.1;have hec:(e:Int)≤(c:Int):=(by omega);have hcf:¬c=fr:=by have:=HFI.out;omega
     have HWC:Hid (Sl w (fun b=>b<w.heap.size) (some ⟨ba,oa+fr*4,none⟩) (c-fr) (Qef l fr e)):=Lh (by
      have hs3:=(HS.out.take e (by omega)).drop fr (by rw[qK];have:=HFI.out;omega)
      rw[if_neg hcf] at hs3
      unfold Qef;simpa[Qaw,Rep.size] using hs3)
     have HCL:Hid ((Qef l fr e).length=e-fr):=Lh (cutL_len _ (by have:=HFI.out;omega) (by omega));have HCN:Hid (∀x∈Qef l fr e,0≤x.n∧x.n≤1000000):=Lh (fun x hx=>HNO.out x (by unfold Qef at hx;exact List.mem_of_mem_take (List.mem_of_mem_drop hx)));have HCI:Hid (((e-fr:Nat):Int)=(e:Int)-(fr:Int)):=Lh (by have:=HFI.out;omega);have hw75:IntKind.i64.wrap ((e:Int)-(fr:Int))=((e-fr:Nat):Int):=(by rw[IntWalk.i64_in _ (by omega)];exact HCI.out.symm);generalize w3.alloc (.cells #[.int .i64 (first+(fr:Int)),.int .i64 (first+(e:Int)),.slice A3 gp.length c3,.slice none 0 0] 56)=w4 at*;clear hba ho3 hb3 hwf hwe hlq ce HSE HGA HI2;generalize hec0:Qef l fr e=cw at*;have HEC:=Lh hec0;clear hec0;go_upto_region 15 with(fail);have HA0:Hid (Ap (w3.heap.size+1) w3.heap.size w4 w4):=Lh (Ap.refl _ _ _);generalize hO:w3.heap.size=O at*;have HOE:=Lh hO;clear hO;have HOW:Hid (w.heap.size≤O):=Lh (by have:=HB13.out.size;have:=HOE.out;omega);generalize hn:e-fr=n at*;have HN:=Lh hn;clear hn;obtain⟨wo,rfl⟩:∃wo:World,wo=wr:=⟨_,rfl⟩;go_loopw [76] (fun vi wx=>∃(k:Nat) (v:Value) (N:List Int),vi=.int .i64 (k:Int)∧k≤n∧Hid (LBx wx O (O+1) 56 (.int .i64 (first+(fr:Int))) (.int .i64 (first+(e:Int))) (.slice A3 gp.length c3) v N)∧Hid (N=QaT (cw.take k))∧Hid (Ap (O+1) O w4 wx)) (fun vi _=>n-(intOf vi).toNat);(case atStart=>exact⟨0,_,[],rfl,Nat.zero_le _,HL0,Lh rfl,HA0⟩);case round=>
      clear HL0 HA0;obtain⟨k,v,N,rfl,hk,HL,HNK,HA⟩:=hrel;obtain⟨A4,c4,rfl,-⟩:=HL.out.n.form;have HB4:Hid (Below w.heap.size w wr):=Lh (HB13.out.trans ((HBA.out.mono HOW.out).trans (HA.out.below HOW.out (Nat.le_succ O))));by_cases hlt2:k<n
      ·have hki:(k:Int)<(n:Int):=by omega
       have hk0:(0:Int)≤(k:Int):=(by omega);have hn5:n≤500:=(by have:=HN.out;omega);obtain⟨b,o,hbo,-,hbl,-,e0,e1,e2,e3⟩:=Qdt (HWC.out.to HB4.out) (k:=k) (by rw[HCL.out];exact hlt2);cases hbo;obtain⟨x,hx⟩:∃x,cw[k]'(by rw[HCL.out];exact hlt2)=x:=⟨_,rfl⟩;rw[hx] at e0 e1 e2 e3;have HX:Hid (cw[k]? =some x):=Lh (by rw[qG (by rw[HCL.out];exact hlt2),hx]);have hxn:=HCN.out x (List.mem_of_getElem? HX.out);obtain⟨hx0,hx1⟩:=hxn;have HNN:Hid (N.length≤k):=Lh (by rw[HNK.out];exact Nat.le_trans (notesP_len _) (by rw[qK];omega));have HST:=Lh (notesP_step cw k x HX.out);rw[←HNK.out] at HST;have hba:Below wr.heap.size wr (wr.alloc (.cells #[.string x.s,.string x.key,.int .i64 x.t,.int .i64 x.n] 66)):=bR.alloc nL _;have HLA:=Lh (HL.out.below hba);have HAA:Hid (Ap (O+1) O w4 (wr.alloc (.cells #[.string x.s,.string x.key,.int .i64 x.t,.int .i64 x.n] 66))):=Lh (HA.out.trans (Ap.of (hba.mono HL.out.sz)));have m3:=(Qai (W:=wr) (o:=.cells #[.string x.s,.string x.key,.int .i64 x.t,.int .i64 x.n] 66) rfl);have n3:(wr.alloc (.cells #[.string x.s,.string x.key,.int .i64 x.t,.int .i64 x.n] 66)).cell? ⟨wr.heap.size,3,none⟩=some (.int .i64 x.n):=(by rw[cell_of_row _ _ _ _ _ _ m3];rfl);have HSZ:Hid ((wr.alloc (.cells #[.string x.s,.string x.key,.int .i64 x.t,.int .i64 x.n] 66)).heap.size=wr.heap.size+1):=Lh (by simp);have HOO:Hid (O+1≤wr.heap.size):=Lh HL.out.sz;clear hx hbl hba HL HA m3;go_upto_region 17 with(fail);generalize hwa:World.alloc wr _=wa;have hwb:wr.alloc (.cells #[.string x.s,.string x.key,.int .i64 x.t,.int .i64 x.n] 66)=wa:=hwa;rw[hwb] at HLA HAA n3 HSZ;clear hwa hwb e0 e1 e2 e3;by_cases h0:x.n=0
       ·have HSN:Hid (QaT (cw.take (k+1))=N):=Lh (by rw[HST.out,if_neg (by simpa using h0)]);rw[h0] at n3;go_wp2_with fail;go_roundw;(case rel=>exact⟨k+1,_,N,by go_num,by omega,HLA,Lh HSN.out.symm,HAA⟩);case measure=>(first|(simp[intOf];done)|(simp[intOf];omega))
       ·have HSN:Hid (QaT (cw.take (k+1))=N++[x.n-1]):=Lh (by rw[HST.out,if_pos h0]);have h00:(x.n==0)=false:=(by rw[beq_eq_false_iff_ne];exact h0);have q3:=HLA.out.o.cell 3 rfl;have hbb:Below wa.heap.size wa (wa.alloc (.cells #[.int .i64 (x.n-1)] 3)):=bR.alloc nL _;have HLB:=Lh (HLA.out.below hbb);have HAB:Hid (Ap (O+1) O w4 (wa.alloc (.cells #[.int .i64 (x.n-1)] 3))):=Lh (HAA.out.trans (Ap.of (hbb.mono HLA.out.sz)));have HI:Hid (I64 (x.n-1)):=Lh (by unfold I64;omega);have HN5:Hid (n≤500):=Lh (by have:=HN.out;omega);clear hbb
        go_wp2_with (first|(at_builtin;refine Qav (α:=Int) _ rfl (.tmp 84) (.tmp 88) 22 rfl (O+1) 3 (.int .i64 0) 8 Tryz.underlying22 Qbf rfl (by decide) (.slice A4 N.length c4) N rfl HLB.out.n wa.heap.size #[.int .i64 (x.n-1)] (x.n-1) (0,0) 3 rfl (heap_alloc_new wa _) ⟨rfl,HI.out⟩ (by have:=HNN.out;have:=HN5.out;omega) (by have:=HNN.out;have:=HN5.out;omega) (by have:=HLB.out.sz;simpa using this) _ rfl ?_;intro g5 p5 w5 hown5 hg5 hat5 hlt5;obtain⟨hbx,hl5,ha5⟩:=HLB.out.push hown5 hg5;have q5:=hbx.cell 3 rfl;have qf:=hbx.fz 3;have HL5:=Lh hl5;have HA5:=Lh (HAB.out.trans ha5);clear hown5 hg5 hat5 hlt5 hbx hl5 ha5)|fail)
        go_roundw;(case rel=>exact⟨k+1,.slice (some ⟨g5,0,none⟩) (N.length+1) p5,N++[x.n-1],by go_num,by omega,HL5,Lh HSN.out.symm,HA5⟩);case measure=>(first|(simp[intOf];done)|(simp[intOf];omega))
      ·obtain rfl:k=n:=by omega
       have HNE:Hid (N=QaT cw):=Lh (by rw[HNK.out,List.take_of_length_le (by rw[HCL.out];exact Nat.le_refl _)]);have HBO:Hid (Below O w3 wr):=Lh (HBA.out.trans (HA.out.below (Nat.le_refl O) (Nat.le_succ O)));have HLG:=Lh HL.out;have HOK3:Hid (Own wr w.heap.size 56 (.slice (some ⟨w1.heap.size,0,none⟩) es.length es.length) ((done++List.replicate (rest.length+1) (⟨0,0,[],[]⟩:LineP)).map (Bd.mk:LineP→Bd LineP w.heap.size))):=Lh (HO.out.kept (fun i hi=>((HBO.out.block i (by have:=HB3.out.size;have:=HOE.out;omega)).trans (HB3.out.block i hi))));have HGO:Hid (Own wr wo.heap.size 3 (.slice A3 gp.length c3) gp):=Lh (HO3.out.kept (fun i hi=>HBO.out.block i (by have:=HOE.out;omega)));have r0:=HL.out.o.cell 0 rfl;have r1:=HL.out.o.cell 1 rfl;have r2:=HL.out.o.cell 2 rfl;have r3:=HL.out.o.cell 3 rfl;obtain⟨L,hL⟩:∃L:List (Bd LineP w.heap.size),((done++List.replicate (rest.length+1) (⟨0,0,[],[]⟩:LineP)).map (Bd.mk:LineP→Bd LineP w.heap.size))=L:=⟨_,rfl⟩;have hLL:es.length=L.length:=(by rw[←hL,HE2.out];simp[HDL.out]);have HLE:=Lh hL;have HLLE:=Lh hLL;rw[hL] at HOK3;have HOK4:Hid (Own wr w.heap.size 56 (.slice (some ⟨w1.heap.size,0,none⟩) L.length es.length) L):=Lh (by have h:=HOK3.out;rwa [show Value.slice (some ⟨w1.heap.size,0,none⟩) es.length es.length=Value.slice (some ⟨w1.heap.size,0,none⟩) L.length es.length by rw[hLL]] at h);have HDI:Hid (dn.length<L.length):=Lh (by rw[←hLL,HE2.out];simp);have HTH:=Lh (HOK4.out.there HDI.out);have hrp:Rep.R wr (fun b=>b≠w1.heap.size) [.int .i64 (first+(fr:Int)),.int .i64 (first+(e:Int)),.slice A3 gp.length c3,.slice A4 N.length c4] (Bd.mk (B:=w.heap.size) (⟨first+(fr:Int),first+(e:Int),gp,N⟩:LineP)):=⟨_,_,rfl,QcC HGO.out rfl (fun b hb=>⟨by have:=HBw.out.2;omega,by have:=HBw.out.2;have:=HG1.out;omega⟩),QcC HL.out.n rfl (fun b hb=>⟨by have:=HBw.out.2;have:=HB3.out.size;have:=HOE.out;omega,by have:=HOW.out;omega⟩)⟩;have HSM:=Lh (HOK4.out.setMid HDI.out hrp)
       have HB5:Hid (Below w1.heap.size w1 (wr.setCells w1.heap.size (dn.length*4) [.int .i64 (first+(fr:Int)),.int .i64 (first+(e:Int)),.slice A3 gp.length c3,.slice A4 N.length c4])∧w1.heap.size<(wr.setCells w1.heap.size (dn.length*4) [.int .i64 (first+(fr:Int)),.int .i64 (first+(e:Int)),.slice A3 gp.length c3,.slice A4 N.length c4]).heap.size):=Lh (by
        have hb:Below w1.heap.size w1 wr:=HBw.out.1.trans ((HB3.out.trans (HBO.out.mono (by have:=HB3.out.size;have:=HOE.out;omega))).mono (Nat.le_of_lt HBw.out.2))
        exact⟨Qb3 nL _ _ hb,by rw[Qcc];have:=hb.size;have:=HBw.out.2;have:=HB3.out.size;have:=HBO.out.size;omega⟩)
       have HPX:Hid (setP l first m=(done++[(⟨first+(fr:Int),first+(e:Int),gp,N⟩:LineP)])++QaA l (Qah l) m first e rest):=Lh (by
        rw[HP.out,QaA,HLA.out,HGP.out,HEC.out,←HNE.out,List.append_assoc];rfl)
       have HON:Hid ((#[.int .i64 (first+(fr:Int)),.int .i64 (first+(e:Int)),.slice A3 gp.length c3,.slice A4 N.length c4]:Array Value).all (·.oneCell')=true):=Lh (by simp[Value.oneCell']);clear hrp hL hLL
       go_wp2_with (first|(refine wpList_store_mid rfl 56 (.tmp 96) (.tmp 94) rfl w1.heap.size (dn.length*4) #[.int .i64 (first+(fr:Int)),.int .i64 (first+(e:Int)),.slice A3 gp.length c3,.slice A4 N.length c4] rfl rfl HTH.out (by kernel_rfl) HON.out ?_)|fail)
       go_roundw
       case rel=>exact⟨dn++[e],rest,done++[⟨first+(fr:Int),first+(e:Int),gp,N⟩],e,rfl,by rw[qA];go_num,Lh (by rw[HE2.out];simp),Lh (by simp[HDL.out]),HPX,by have:=HFI.out;omega,HOK2,Lh (by
        have h:=HSM.out
        rw[←HLE.out,lines_set _ _ _ HDL.out,HLE.out,←HLLE.out] at h
        exact h),HB5⟩
       case measure=>(have h:=HLLE.out;have h2:=HDI.out;first|(simp[intOf];done)|(simp[intOf];omega))
end Go.Proofs.YtegaapiocihcpaaGreatDoor
namespace Go.Proofs.YtegaapiocihcpaaGreatDoor
theorem stepW_zero {np nn i:Nat}{notes n':Int}{x:Word}(h0:0≤notes)(h1:notes≤nn)(h:Qch np nn i notes x=(0,n')):(1≤QaR x.s∧QaR x.s≤480)∧0≤x.n∧x.n≤nn∧0≤n'∧n'≤nn:=by
 unfold Qch at h;split at h
 ·exact absurd (congrArg Prod.fst h) (by simp)
 ·rename_i hb;have hv:QbS x.s=true:=by
   cases hv:QbS x.s with
   |true=>rfl
   |false=>exact absurd (bad_s hv) hb
  have hw:1≤QaR x.s∧QaR x.s≤480:=by
   have h1:=hv;rw[valid_iff] at h1;have h2:0<QaR x.s:=of_decide_eq_true h1;refine⟨h2,?_⟩;have h3:=sumW_bd x.s.data.toList;have h4:x.s.data.toList.length=x.s.size:=rfl;unfold QaR at h2 ⊢;split
   ·omega
   ·split
    ·omega
    ·omega
  split at h
  ·exact absurd (congrArg Prod.fst h) (by simp)
  ·split at h
   ·rename_i hn;have:=congrArg Prod.snd h;simp at this;exact⟨hw,by omega,by omega,by omega,by omega⟩
   ·split at h
    ·exact absurd (congrArg Prod.fst h) (by simp)
    ·rename_i hn hh;have:=congrArg Prod.snd h;simp at this;exact⟨hw,by omega,by omega,by omega,by omega⟩
theorem scanW_zero {np nn i:Nat}:∀(p:List Word) (notes n':Int),0≤notes→notes≤nn→QaS np nn i notes p=(0,n')→(∀x∈p,(1≤QaR x.s∧QaR x.s≤480)∧0≤x.n∧x.n≤nn)∧0≤n'∧n'≤nn
 |[],notes,n',h0,h1,h=>by
  have:=congrArg Prod.snd h;simp[QaS] at this;exact⟨by simp,by omega,by omega⟩
 |x::p,notes,n',h0,h1,h=>by
  rw[QaS] at h;split at h
  ·rename_i hs;have hx:=stepW_zero (x:=x) (np:=np) (nn:=nn) (i:=i) (n':=(Qch np nn i notes x).2) h0 h1 (by rw[←hs]);have ih:=scanW_zero p _ n' hx.2.2.2.1 hx.2.2.2.2 h;exact⟨fun y hy=>(List.mem_cons.1 hy).elim (fun e=>e▸⟨hx.1,hx.2.1,hx.2.2.1⟩) (ih.1 y),ih.2⟩
  ·rename_i hs;exact absurd (congrArg Prod.fst h) hs
theorem scanP_zero {np nn:Nat}:∀(l:List (List Word)) (i:Nat) (notes n':Int),0≤notes→notes≤nn→QbV np nn i notes l=(0,n')→∀p∈l,∀x∈p,(1≤QaR x.s∧QaR x.s≤480)∧0≤x.n∧x.n≤nn
 |[],_,_,_,_,_,_=>by simp
 |p::l,i,notes,n',h0,h1,h=>by
  rw[QbV] at h;split at h
  ·rename_i hs;have hx:=scanW_zero p notes (QaS np nn i notes p).2 h0 h1 (by rw[←hs]);have ih:=scanP_zero l (i+1) _ n' hx.2.1 hx.2.2 h;exact fun q hq=>(List.mem_cons.1 hq).elim (fun e=>e▸hx.1) (ih q)
  ·rename_i hs;exact absurd (congrArg Prod.fst h) hs
structure FineT (a b:List (List Word)):Prop where
 la:a.length≤100
 lb:b.length≤100
 p:∀p∈a++b,1≤p.length∧p.length≤500
 w:∀p∈a++b,∀x∈p,(1≤QaR x.s∧QaR x.s≤480)∧0≤x.n∧x.n≤100
theorem chk_zero {a b:List (List Word)}(h:Qee a b=0):FineT a b:=by
 unfold Qee at h;split at h
 ·exact absurd h (by decide)
 ·rename_i h1;split at h
  ·exact absurd h (by decide)
  ·rename_i h2
   have hp:∀p∈a++b,1≤p.length∧p.length≤500:=fun p hp=>by
    have a1:¬Qa1 QeK (a++b)=true:=fun e=>h1 (.inr (.inr e))
    unfold Qa1 at a1 h2;rw[List.any_eq_true] at a1 h2;have b1:¬QeK p.length=true:=fun e=>a1 ⟨p,hp,e⟩
    have b2:¬QcI p.length=true:=fun e=>h2 ⟨p,hp,e⟩
    unfold QeK at b1;unfold QcI at b2;rw[decide_eq_true_iff] at b1 b2;omega
   have hb:b.length≤100:=(by omega);refine⟨by omega,hb,hp,?_⟩;unfold endP at h;split at h
   ·exact absurd h (by assumption)
   ·rename_i h3;have hz:(QbV a.length b.length 0 0 (a++b)).1=0:=by
     rcases Classical.em ((QbV a.length b.length 0 0 (a++b)).1=0) with h4|h4
     ·exact h4
     ·exact absurd h4 h3
    have:=scanP_zero (a++b) 0 0 (QbV a.length b.length 0 0 (a++b)).2 (Int.le_refl _) (by omega) (Prod.ext hz rfl);intro p hp x hx;have h5:=this p hp x hx;exact⟨h5.1,h5.2.1,by omega⟩
theorem FineT.reg {a b:List (List Word)}(h:FineT a b){m:Int}(h1:500≤m)(h2:m≤2000){p:List Word}(hp:p∈a++b):Reg (Qah p) m:=
 ⟨by unfold Qah;rw[qM];exact(h.p p hp).2,h1,h2,fun x hx=>by
  unfold Qah at hx
  obtain⟨y,hy,rfl⟩:=List.mem_map.1 hx
  exact(h.w p hp y hy).1⟩
theorem tot_bound:∀l:List (List Word),(∀p∈l,p.length≤500)→tot l≤500*l.length
 |[],_=>by simp[tot]
 |p::l,h=>by
  have h1:=h p (by simp);have h2:=tot_bound l (fun q hq=>h q (by simp[hq]));unfold tot at*;rw[List.flatten_cons,qA,qC];omega
theorem FineT.tot {a b:List (List Word)}(h:FineT a b):tot (a++b)≤100000:=by
 have h1:=tot_bound (a++b) (fun p hp=>(h.p p hp).2);have h2:=h.la;have h3:=h.lb;rw[qA] at h1;omega
theorem Qbd (a b:List (List Word)):tot (a++b)=tot a+tot b:=by unfold tot;simp
theorem Qb9 (m:Int):∀(a b:List (List Word)) (first:Int),Qaz m first (a++b)=Qaz m first a++Qaz m (first+(tot a:Nat)) b
 |[],b,first=>by simp[Qaz,tot]
 |p::a,b,first=>by
  have e:first+(p.length:Int)+(tot a:Nat)=first+(tot (p::a):Nat):=(by unfold tot;simp;omega);rw[List.cons_append,Qaz,Qb9 m a b,Qaz,e];rfl
theorem Qbi (m:Int):∀(a:List (List Word)) (first:Int),(Qaz m first a).length=a.length
 |[],_=>rfl
 |p::a,first=>by rw[Qaz,qC,qC,Qbi]
theorem QbC (ws:List Word)(wd:List Int)(m first:Int):∀(es:List Nat) (i:Nat),(QaA ws wd m first i es).length=es.length
 |[],_=>rfl
 |e::es,i=>by rw[QaA,qC,qC,QbC]
end Go.Proofs.YtegaapiocihcpaaGreatDoor
namespace Go.Proofs.YtegaapiocihcpaaGreatDoor
open Go.RowKit
theorem tl_len (s:ByteArray):∀n i r,s.size-i=n→(ByteArray.toList.loop s i r).length=r.length+n:=by
 intro n;induction n with
 |zero=>intro i r h;rw[ByteArray.toList.loop,if_neg (by omega)];simp
 |succ n ih=>intro i r h;rw[ByteArray.toList.loop,if_pos (by omega),ih (i+1) _ (by omega)];simp;omega
theorem tl_size (s:ByteArray):s.toList.length=s.size:=by
 unfold ByteArray.toList;rw[tl_len s s.size 0 [] (by omega)];simp
theorem key_nil {s:ByteArray}(h:s=⟨#[]⟩):s.toList=[]∧(!s.toList.isEmpty)=false:=by
 have:s.toList=[]:=List.eq_nil_of_length_eq_zero (by rw[tl_size,h];rfl);rw[this];simp
theorem key_some {s:ByteArray}(h:s≠⟨#[]⟩):¬s.toList=[]∧(!s.toList.isEmpty)=true:=by
 have:¬s.toList=[]:=by
  intro e;apply h;have h2:=tl_size s;rw[e] at h2;apply ByteArray.ext;exact Array.eq_empty_of_size_eq_zero h2.symm
 exact⟨this,by cases hl:s.toList with|nil=>exact absurd hl this|cons a r=>rfl⟩
set_option maxRecDepth 100000 in
theorem gcheck_any (A B:Option Addr)(c d:Nat)(a b:List (List Word))(w:World)(hT:Laid w)(ha:Sl w (fun b=>b<w.heap.size) A c a)(hb:Sl w (fun b=>b<w.heap.size) B d b)(hla:a.length≤1048576)(hlb:b.length≤1048576):
 Calls Tryz.prog 38 #[.agg #[.slice A a.length c,.slice B b.length d]] w fun e w'=>e=.returned (.int .i64 (Qee a b))∧Below w.heap.size w w':=by
 have hb0:=((Below.refl w.heap.size w).alloc nL (.cells #[.slice A a.length c,.slice B b.length d] 36));have hb1:=hb0.alloc (by simp) (.cells #[.slice A a.length c,.slice B b.length d] 34);have Hb1:=Lh hb1;have Ha:=Lh (ha.to hb1);have Hb:=Lh (hb.to hb1);have HT:=Lh hT;have q0:((w.alloc (.cells #[.slice A a.length c,.slice B b.length d] 36)).alloc (.cells #[.slice A a.length c,.slice B b.length d] 34)).cell? ⟨w.heap.size+1,0,none⟩=some (.slice A a.length c):=by go_simp
 have q1:((w.alloc (.cells #[.slice A a.length c,.slice B b.length d] 36)).alloc (.cells #[.slice A a.length c,.slice B b.length d] 34)).cell? ⟨w.heap.size+1,1,none⟩=some (.slice B b.length d):=by go_simp
 have Q0:=Lh q0;have Q1:=Lh q1;have TB0:=Lh ((Below.heap_alloc (w.alloc (.cells #[.slice A a.length c,.slice B b.length d] 36)) (.cells #[.slice A a.length c,.slice B b.length d] 34) w.heap.size (by simp)).trans (heap_alloc_new w (.cells #[.slice A a.length c,.slice B b.length d] 36)));have hz0:w.heap.size<((w.alloc (.cells #[.slice A a.length c,.slice B b.length d] 36)).alloc (.cells #[.slice A a.length c,.slice B b.length d] 34)).heap.size:=by simp;omega
 clear ha hb hb0 hb1 q0 q1 hT;have HC:=Lh (show Qee a b=if 100<a.length∨100<b.length∨Qa1 QeK (a++b)=true then 2 else if Qa1 QcI (a++b)=true then 1 else endP b.length (QbV a.length b.length 0 0 (a++b)) from rfl);generalize Qee a b=res at*;go_enter Tryz.func38,Tryz.ntmps38;go_wp2_with fail;refine(QdB _ A B c d a b _ Q0.out Q1.out Ha.out Hb.out hla hlb).mono ?_;rintro e w1 ⟨v,rfl,hown,hbb⟩;obtain⟨A1,c1,rfl,hs⟩:=hown.sl;have hll:(a++b).length≤2097152:=by simp;omega
 generalize a++b=l at*;have Hs:=Lh hs;have Hbb:=Lh (Hb1.out.trans (hbb.mono Hb1.out.size));have TB:=Lh ((hbb.block _ hz0).trans TB0.out);have hz1:w.heap.size<w1.heap.size:=Nat.lt_of_lt_of_le hz0 hbb.size;obtain⟨t0,t1⟩:=Qd6 TB.out;clear hs hown hbb Ha Hb Q0 Q1 Hb1 TB0 hz0;by_cases h1:100<a.length
 ·have E:=Lh (show res=2 by rw[HC.out,if_pos (.inl h1)]);have h1':(100:Int)<(a.length:Int):=(by omega);go_wp2_with fail;go_ret;exact⟨Qas E.out.symm,Hbb.out⟩
 ·have h1':¬(100:Int)<(a.length:Int):=by omega
  by_cases h2:100<b.length
  ·have E:=Lh (show res=2 by rw[HC.out,if_pos (.inr (.inl h2))]);have h2':(100:Int)<(b.length:Int):=(by omega);go_wp2_with fail;go_ret;exact⟨Qas E.out.symm,Hbb.out⟩
  ·have h2':¬(100:Int)<(b.length:Int):=by omega
   go_wp2_with fail;refine(Qce A1 c1 _ l 87 QeK w1 Hs.out rfl (fun _ _=>by kernel_rfl) long_any).mono ?_;rintro e w2 ⟨rfl,rfl⟩;cases h3:Qa1 QeK l
   ·have h3':=Lh h3;clear h3;go_wp2_with fail;refine(Qce A1 c1 _ l 88 QcI w1 Hs.out rfl (fun _ _=>by kernel_rfl) empty_any).mono ?_;rintro e w2 ⟨rfl,rfl⟩;cases h4:Qa1 QcI l
    ·have E:=Lh (show res=endP b.length (QbV a.length b.length 0 0 l) by rw[HC.out,if_neg (by rw[h3'.out];simp;omega),if_neg (by rw[h4];simp)]);clear h4 h3' HC;go_wp2_with fail;have hnn:b.length≤100:=(by omega);clear h1 h2 t0 t1;go_loopw [4,5,6,8,33] (fun n _ _ _ i wr=>∃k:Nat,k≤l.length∧i=.int .i64 k∧(∃q:Nat,q≤b.length∧n=.int .i64 (q:Int)∧Hid (QbV a.length b.length 0 0 l=QbV a.length b.length k q (l.drop k)))∧Below w1.heap.size w1 wr) (fun _ _ _ _ i _=>l.length-(intOf i).toNat);(case atStart=>exact⟨0,Nat.zero_le _,rfl,⟨0,Nat.zero_le _,rfl,rfl⟩,Below.refl _ _⟩);case round=>
      obtain⟨k,hk,rfl,⟨q,hq,rfl,hsc⟩,hb2⟩:=hrel;have Hb2:=Lh hb2;clear hb2;by_cases hlt:k<l.length
      ·obtain⟨bb,o,Ap,cp,rfl,_,hbl,hc,hp⟩:=Qb8 (Hs.out.to Hb2.out) hlt;have hkl:(k:Int)<(l.length:Int):=(by omega);have hk0:(0:Int)≤(k:Int):=(by omega);have HPo:=Lh (fun n' h=>scanP_ok (np:=a.length) (nn:=b.length) (notes:=(q:Int)) (n':=n') hlt h);have HPe:=Lh (fun n' e h he=>scanP_err (np:=a.length) (nn:=b.length) (notes:=(q:Int)) (n':=n') (e:=e) hlt h he);have h2:l[k].length≤9223372036854775807:=(by have:=hp.1;have:=hp.2.1;unfold maxLen at this;omega);generalize l[k]=p at*;have Hp:=Lh hp;clear hp;go_wp2_with fail;obtain⟨wo,rfl⟩:∃wo:World,wo=wr:=⟨_,rfl⟩;go_loopw [4,8,40] (fun n _ i wr=>∃j:Nat,j≤p.length∧i=.int .i64 j∧(∃r:Nat,r≤b.length∧n=.int .i64 (r:Int)∧Hid (QaS a.length b.length k q p=QaS a.length b.length k r (p.drop j)))∧Below wo.heap.size wo wr) (fun _ _ i _=>p.length-(intOf i).toNat);(case atStart=>exact⟨0,Nat.zero_le _,rfl,⟨q,hq,rfl,rfl⟩,Below.refl _ _⟩);case round=>
        obtain⟨j,hj,rfl,⟨r,hr,rfl,hsw⟩,hb3⟩:=hrel;have Hb3:=Lh hb3;have hz3:=hb3.size;clear hb3;by_cases hjl:j<p.length
        ·obtain⟨b3,o3,rfl,_,hbl3,hok,d0,d1,d2,d3⟩:=Qdt (Hp.out.to Hb3.out) hjl;have hj1:(j:Int)<(p.length:Int):=(by omega);have hj0:(0:Int)≤(j:Int):=(by omega);have HWo:=Lh (fun n' h=>scanW_ok (np:=a.length) (nn:=b.length) (i:=k) (notes:=(r:Int)) (n':=n') hjl h);have HWe:=Lh (fun n' e h he=>scanW_err (np:=a.length) (nn:=b.length) (i:=k) (notes:=(r:Int)) (n':=n') (e:=e) hjl h he);generalize p[j]=x at*;have hx2:=hok.2.2.1;have hx3:=hok.2.2.2;have Hb4:=Lh (Hb3.out.alloc hz3 (.cells #[.string x.s,.string x.key,.int .i64 x.t,.int .i64 x.n] 66));have Hb24:=Lh (Hb2.out.trans (Hb4.out.mono Hb2.out.size));have HL4:=Lh ((HT.out.to Hbb.out).to Hb24.out);have TB4:=Lh ((Hb24.out.block _ hz1).trans TB.out);go_wp2_with fail;refine(gvalid_any x.s _ HL4.out).mono ?_;rintro e w' ⟨rfl,rfl⟩;have HErr:=Lh (fun n' e h he=>(show res=e by rw[E.out,hsc.out,HPe.out n' e (by rw[hsw.out];exact HWe.out n' e h he) he];unfold endP;rw[if_pos he]));cases hvs:QbS x.s
         ·have E2:=Lh (HErr.out _ _ (step_bad (bad_s hvs)) (by decide));clear hvs;go_wp2_with fail;go_ret;exact⟨Qas E2.out.symm,Hbb.out.trans (Hb24.out.mono Hbb.out.size)⟩
         ·have Hvs:=Lh hvs;clear hvs;by_cases hke:x.key=⟨#[]⟩
          ·obtain⟨k1,k2⟩:=key_nil hke;have Hke:=Lh hke;clear hke;have hgood:=Lh (good_nokey Hvs.out Hke.out);by_cases ht:x.t=0∨x.t=1
           ·have ht':=Lh ht;obtain⟨t0,t1⟩:=Qd6 TB4.out;by_cases hn0:x.n=0
            ·have hB:(x.n != 0)=false:=by rw[hn0];rfl
             have hst:=Lh (Qcz (np:=a.length) (nn:=b.length) (i:=k) (notes:=(r:Int)) hgood.out ht hn0);clear hn0;rcases ht with ht0|ht0
             ·have hB0:(x.t != 0)=false:=by rw[ht0];rfl
              clear ht0;have E2:=Lh (show QaS a.length b.length k q p=QaS a.length b.length k (r:Int) (p.drop (j+1)) by rw[hsw.out];exact HWo.out _ (hst.out));clear HErr;go_wp2_with fail;go_roundw;(case rel=>exact⟨j+1,by omega,by go_num,⟨r,by omega,by go_num,E2.out⟩,Hb4.out⟩);case measure=>simp[intOf];omega
             ·have hB0:(x.t != 1)=false:=by rw[ht0];rfl
              have hB1:(x.t != 0)=true:=(by rw[ht0];rfl);clear ht0;have E2:=Lh (show QaS a.length b.length k q p=QaS a.length b.length k (r:Int) (p.drop (j+1)) by rw[hsw.out];exact HWo.out _ (hst.out));clear HErr;go_wp2_with fail;go_roundw;(case rel=>exact⟨j+1,by omega,by go_num,⟨r,by omega,by go_num,E2.out⟩,Hb4.out⟩);case measure=>simp[intOf];omega
            ·have hB:(x.n != 0)=true:=bne_iff_ne.2 hn0;by_cases hh:a.length≤k∨x.n≠(r:Int)+1∨(b.length:Int)<(r:Int)+1
             ·have hst:=Lh (step_far (np:=a.length) (nn:=b.length) (i:=k) (notes:=(r:Int)) hgood.out ht hn0 hh);clear hn0;rcases ht with ht0|ht0
              ·have hB0:(x.t != 0)=false:=by rw[ht0];rfl
               clear ht0;have E2:=Lh (HErr.out _ _ hst.out (by decide));by_cases hk1:(a.length:Int)≤(k:Int)
               ·clear hh;go_wp2_with fail;go_ret;exact⟨Qas E2.out.symm,Hbb.out.trans (Hb24.out.mono Hbb.out.size)⟩
               ·by_cases hk2:x.n=(r:Int)+1
                ·have hB2:(x.n != (r:Int)+1)=false:=by rw[hk2];simp
                 have hk3:(b.length:Int)<(r:Int)+1:=(by omega);clear hh hk2;go_wp2_with fail;go_ret;exact⟨Qas E2.out.symm,Hbb.out.trans (Hb24.out.mono Hbb.out.size)⟩
                ·have hB2:(x.n != (r:Int)+1)=true:=bne_iff_ne.2 hk2;clear hh hk2;go_wp2_with fail;go_ret;exact⟨Qas E2.out.symm,Hbb.out.trans (Hb24.out.mono Hbb.out.size)⟩
              ·have hB0:(x.t != 1)=false:=by rw[ht0];rfl
               have hB1:(x.t != 0)=true:=(by rw[ht0];rfl);clear ht0;have E2:=Lh (HErr.out _ _ hst.out (by decide));by_cases hk1:(a.length:Int)≤(k:Int)
               ·clear hh;go_wp2_with fail;go_ret;exact⟨Qas E2.out.symm,Hbb.out.trans (Hb24.out.mono Hbb.out.size)⟩
               ·by_cases hk2:x.n=(r:Int)+1
                ·have hB2:(x.n != (r:Int)+1)=false:=by rw[hk2];simp
                 have hk3:(b.length:Int)<(r:Int)+1:=(by omega);clear hh hk2;go_wp2_with fail;go_ret;exact⟨Qas E2.out.symm,Hbb.out.trans (Hb24.out.mono Hbb.out.size)⟩
                ·have hB2:(x.n != (r:Int)+1)=true:=bne_iff_ne.2 hk2;clear hh hk2;go_wp2_with fail;go_ret;exact⟨Qas E2.out.symm,Hbb.out.trans (Hb24.out.mono Hbb.out.size)⟩
             ·have hst:=Lh (QeH (np:=a.length) (nn:=b.length) (i:=k) (notes:=(r:Int)) hgood.out ht hn0 hh);have hk1:¬(a.length:Int)≤(k:Int):=(by omega);have hB2:(x.n != (r:Int)+1)=false:=(by rw[show x.n=(r:Int)+1 by omega];simp);have hk3:¬(b.length:Int)<(r:Int)+1:=(by omega);clear hn0 hh;rcases ht with ht0|ht0
              ·have hB0:(x.t != 0)=false:=by rw[ht0];rfl
               clear ht0;have E2:=Lh (show QaS a.length b.length k q p=QaS a.length b.length k ((r+1:Nat):Int) (p.drop (j+1)) by rw[hsw.out];exact HWo.out _ (hst.out));clear HErr;go_wp2_with fail;go_roundw;(case rel=>exact⟨j+1,by omega,by go_num,⟨r+1,by omega,by go_num,E2.out⟩,Hb4.out⟩);case measure=>simp[intOf];omega
              ·have hB0:(x.t != 1)=false:=by rw[ht0];rfl
               have hB1:(x.t != 0)=true:=(by rw[ht0];rfl);clear ht0;have E2:=Lh (show QaS a.length b.length k q p=QaS a.length b.length k ((r+1:Nat):Int) (p.drop (j+1)) by rw[hsw.out];exact HWo.out _ (hst.out));clear HErr;go_wp2_with fail;go_roundw;(case rel=>exact⟨j+1,by omega,by go_num,⟨r+1,by omega,by go_num,E2.out⟩,Hb4.out⟩);case measure=>simp[intOf];omega
           ·have hst:=Lh (step_tab (np:=a.length) (nn:=b.length) (i:=k) (notes:=(r:Int)) hgood.out (by omega));have hB0:(x.t != 0)=true:=bne_iff_ne.2 (by omega);have hB1:(x.t != 1)=true:=bne_iff_ne.2 (by omega);clear ht;have E2:=Lh (HErr.out _ _ (hst.out) (by decide));go_wp2_with fail;go_ret;exact⟨Qas E2.out.symm,Hbb.out.trans (Hb24.out.mono Hbb.out.size)⟩
          ·obtain⟨k1,k2⟩:=key_some hke;have Hke:=Lh hke;clear hke;go_wp2_with fail;refine(gvalid_any x.key _ HL4.out).mono ?_;rintro e w' ⟨rfl,rfl⟩;cases hvk:QbS x.key
           ·have hst:=Lh (step_bad (np:=a.length) (nn:=b.length) (i:=k) (notes:=(r:Int)) (bad_key Hke.out hvk));clear hvk;have E2:=Lh (HErr.out _ _ (hst.out) (by decide));go_wp2_with fail;go_ret;exact⟨Qas E2.out.symm,Hbb.out.trans (Hb24.out.mono Hbb.out.size)⟩
           ·have Hvk:=Lh hvk;clear hvk;have hgood:=Lh (good_key Hvs.out Hvk.out);by_cases ht:x.t=0∨x.t=1
            ·have ht':=Lh ht;obtain⟨t0,t1⟩:=Qd6 TB4.out;by_cases hn0:x.n=0
             ·have hB:(x.n != 0)=false:=by rw[hn0];rfl
              have hst:=Lh (Qcz (np:=a.length) (nn:=b.length) (i:=k) (notes:=(r:Int)) hgood.out ht hn0);clear hn0;rcases ht with ht0|ht0
              ·have hB0:(x.t != 0)=false:=by rw[ht0];rfl
               clear ht0;have E2:=Lh (show QaS a.length b.length k q p=QaS a.length b.length k (r:Int) (p.drop (j+1)) by rw[hsw.out];exact HWo.out _ (hst.out));clear HErr;go_wp2_with fail;go_roundw;(case rel=>exact⟨j+1,by omega,by go_num,⟨r,by omega,by go_num,E2.out⟩,Hb4.out⟩);case measure=>simp[intOf];omega
              ·have hB0:(x.t != 1)=false:=by rw[ht0];rfl
               have hB1:(x.t != 0)=true:=(by rw[ht0];rfl);clear ht0;have E2:=Lh (show QaS a.length b.length k q p=QaS a.length b.length k (r:Int) (p.drop (j+1)) by rw[hsw.out];exact HWo.out _ (hst.out));clear HErr;go_wp2_with fail;go_roundw;(case rel=>exact⟨j+1,by omega,by go_num,⟨r,by omega,by go_num,E2.out⟩,Hb4.out⟩);case measure=>simp[intOf];omega
             ·have hB:(x.n != 0)=true:=bne_iff_ne.2 hn0;by_cases hh:a.length≤k∨x.n≠(r:Int)+1∨(b.length:Int)<(r:Int)+1
              ·have hst:=Lh (step_far (np:=a.length) (nn:=b.length) (i:=k) (notes:=(r:Int)) hgood.out ht hn0 hh);clear hn0;rcases ht with ht0|ht0
               ·have hB0:(x.t != 0)=false:=by rw[ht0];rfl
                clear ht0;have E2:=Lh (HErr.out _ _ hst.out (by decide));by_cases hk1:(a.length:Int)≤(k:Int)
                ·clear hh;go_wp2_with fail;go_ret;exact⟨Qas E2.out.symm,Hbb.out.trans (Hb24.out.mono Hbb.out.size)⟩
                ·by_cases hk2:x.n=(r:Int)+1
                 ·have hB2:(x.n != (r:Int)+1)=false:=by rw[hk2];simp
                  have hk3:(b.length:Int)<(r:Int)+1:=(by omega);clear hh hk2;go_wp2_with fail;go_ret;exact⟨Qas E2.out.symm,Hbb.out.trans (Hb24.out.mono Hbb.out.size)⟩
                 ·have hB2:(x.n != (r:Int)+1)=true:=bne_iff_ne.2 hk2;clear hh hk2;go_wp2_with fail;go_ret;exact⟨Qas E2.out.symm,Hbb.out.trans (Hb24.out.mono Hbb.out.size)⟩
               ·have hB0:(x.t != 1)=false:=by rw[ht0];rfl
                have hB1:(x.t != 0)=true:=(by rw[ht0];rfl);clear ht0;have E2:=Lh (HErr.out _ _ hst.out (by decide));by_cases hk1:(a.length:Int)≤(k:Int)
                ·clear hh;go_wp2_with fail;go_ret;exact⟨Qas E2.out.symm,Hbb.out.trans (Hb24.out.mono Hbb.out.size)⟩
                ·by_cases hk2:x.n=(r:Int)+1
                 ·have hB2:(x.n != (r:Int)+1)=false:=by rw[hk2];simp
                  have hk3:(b.length:Int)<(r:Int)+1:=(by omega);clear hh hk2;go_wp2_with fail;go_ret;exact⟨Qas E2.out.symm,Hbb.out.trans (Hb24.out.mono Hbb.out.size)⟩
                 ·have hB2:(x.n != (r:Int)+1)=true:=bne_iff_ne.2 hk2;clear hh hk2;go_wp2_with fail;go_ret;exact⟨Qas E2.out.symm,Hbb.out.trans (Hb24.out.mono Hbb.out.size)⟩
              ·have hst:=Lh (QeH (np:=a.length) (nn:=b.length) (i:=k) (notes:=(r:Int)) hgood.out ht hn0 hh);have hk1:¬(a.length:Int)≤(k:Int):=(by omega);have hB2:(x.n != (r:Int)+1)=false:=(by rw[show x.n=(r:Int)+1 by omega];simp);have hk3:¬(b.length:Int)<(r:Int)+1:=(by omega);clear hn0 hh;rcases ht with ht0|ht0
               ·have hB0:(x.t != 0)=false:=by rw[ht0];rfl
                clear ht0;have E2:=Lh (show QaS a.length b.length k q p=QaS a.length b.length k ((r+1:Nat):Int) (p.drop (j+1)) by rw[hsw.out];exact HWo.out _ (hst.out));clear HErr;go_wp2_with fail;go_roundw;(case rel=>exact⟨j+1,by omega,by go_num,⟨r+1,by omega,by go_num,E2.out⟩,Hb4.out⟩);case measure=>simp[intOf];omega
               ·have hB0:(x.t != 1)=false:=by rw[ht0];rfl
                have hB1:(x.t != 0)=true:=(by rw[ht0];rfl);clear ht0;have E2:=Lh (show QaS a.length b.length k q p=QaS a.length b.length k ((r+1:Nat):Int) (p.drop (j+1)) by rw[hsw.out];exact HWo.out _ (hst.out));clear HErr;go_wp2_with fail;go_roundw;(case rel=>exact⟨j+1,by omega,by go_num,⟨r+1,by omega,by go_num,E2.out⟩,Hb4.out⟩);case measure=>simp[intOf];omega
            ·have hst:=Lh (step_tab (np:=a.length) (nn:=b.length) (i:=k) (notes:=(r:Int)) hgood.out (by omega));have hB0:(x.t != 0)=true:=bne_iff_ne.2 (by omega);have hB1:(x.t != 1)=true:=bne_iff_ne.2 (by omega);clear ht;have E2:=Lh (HErr.out _ _ (hst.out) (by decide));go_wp2_with fail;go_ret;exact⟨Qas E2.out.symm,Hbb.out.trans (Hb24.out.mono Hbb.out.size)⟩
        ·obtain rfl:j=p.length:=by omega
         have hsw':QaS a.length b.length k q p=(0,(r:Int)):=(by rw[hsw.out,List.drop_of_length_le nL];rfl);have E2:=Lh (hsc.out.trans (HPo.out _ hsw'));clear hsw';go_wp2_with fail;go_roundw;(case rel=>exact⟨k+1,by omega,by go_num,⟨r,by omega,rfl,E2.out⟩,Hb2.out.trans (Hb3.out.mono Hb2.out.size)⟩);case measure=>simp[intOf];omega
      ·have hsc':=Lh (show QbV a.length b.length 0 0 l=(0,(q:Int)) by rw[hsc.out,List.drop_of_length_le (by omega)];rfl);obtain⟨t0,t1⟩:=Qd6 ((Hb2.out.block _ hz1).trans TB.out);by_cases hqn:q=b.length
       ·have E2:=Lh (show res=0 by rw[E.out,hsc'.out,hqn];unfold endP;simp);have hB:((q:Int) != (b.length:Int))=false:=(by rw[hqn];simp);clear hqn;go_wp2_with fail;go_ret;exact⟨Qas E2.out.symm,Hbb.out.trans (Hb2.out.mono Hbb.out.size)⟩
       ·have E2:=Lh (show res=3 by rw[E.out,hsc'.out];unfold endP;rw[if_neg (by simp),if_pos (by simp;omega)]);have hB:((q:Int) != (b.length:Int))=true:=(by rw[bne_iff_ne];omega);clear hqn;go_wp2_with fail;go_ret;exact⟨Qas E2.out.symm,Hbb.out.trans (Hb2.out.mono Hbb.out.size)⟩
    ·have E:=Lh (show res=1 by rw[HC.out,if_neg (by rw[h3'.out];simp;omega),if_pos h4]);clear h4;go_wp2_with fail;go_ret;exact⟨Qas E.out.symm,Hbb.out⟩
   ·have E:=Lh (show res=2 by rw[HC.out,if_pos (.inr (.inr h3))]);clear h3;go_wp2_with fail;go_ret;exact⟨Qas E.out.symm,Hbb.out⟩
end Go.Proofs.YtegaapiocihcpaaGreatDoor
