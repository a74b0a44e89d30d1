/- Texts of CbC. -/
import Derived.Test.YtegaapiocihcpaaGreatDoorVZj3
import Derived.RangeFuncNested
import Derived.RangeFuncBound
import Derived.RangeFuncCalls
import Derived.RangeFuncLeaves
import Derived.RangeFuncBox
import Derived.Shelf.Abstract
import Derived.Shelf.RegionOpen
import Derived.WalkKit
import Derived.OwnWalkIn
import Derived.TacticsInMore
import Derived.LoopNIn
import Derived.LoopIn
import Derived.ChangeKeysEq
import Derived.Laws.NewFold
import Derived.Deep.MidRow
import Derived.Deep.CutRange
import Derived.Test.YtegaapiocihcpaaGreatDoorRows
import Derived.Shelf.Small.Bits
import Derived.Ground.NamesProg
set_option maxHeartbeats 4000000
namespace Go.Proofs.YtegaapiocihcpaaGreatDoor
open Go.RowKit
theorem run_catS {P:Program}{w:World}(base:Nat)(t ts ty e:TypeId)(ht:P.underlying t=some (.slice e))(hts:P.underlying ts=some .string)(hinfo:(P.info? e).map (fun i=>(i.zero,i.size,i.bytes))=some (some (.int .u8 0),1,1)) (v:Value) (l:List UInt8) (hown:Own w base e v l) (b:ByteArray) (hbytes:l.length+b.size≤140737488355328) (hbase:base≤w.heap.size):
 ∃v' w',(Builtin.append_ #[t,ts] ty #[v,.string b]).run P w=.ok v' w'∧Own w' base e v' (l++b.data.toList)∧w.grownBy w' v.ownBlock∧(v'.ownBlock=v.ownBlock∨∀g,v'.ownBlock=some g→w.heap.size≤g):=by
 obtain⟨i,hi,hz,hz1,hz2⟩:=info_parts hinfo;have hbl:b.data.toList.length=b.size:=by rw[Array.length_toList];rfl
 have hr:=hown.rowB;obtain⟨v',w',hrun,h2,h3,_⟩:=Lib.run_append_own_string (P:=P) w base t ts ty e i ht hts hi hz hz1 hz2 v l.length (l.map Qab) hr b (by simp only[maxLen];omega) hbytes hbase;refine⟨v',w',hrun,Qdk (by rw[qA,hbl,List.map_append,←strCells_eq];exact h2),h3,?_⟩;rcases hr.2 with⟨rfl,hn⟩|⟨g,cap,cur,rfl,hb,hg,hnc,hcm,hcs,htk⟩
 ·obtain⟨v2,w2,hrun2,k2,_,_⟩:=Lib.run_append_own_string (P:=P) w w.heap.size t ts ty e i ht hts hi hz hz1 hz2 (.slice none 0 0) l.length (l.map Qab) ⟨hr.1,.inl ⟨rfl,hn⟩⟩ b (by simp only[maxLen];omega) hbytes nL;rw[hrun] at hrun2;obtain⟨rfl,rfl⟩:=Result.ok.inj hrun2;refine .inr fun g hg=>?_
  rcases k2.2 with⟨rfl,_⟩|⟨g2,cap,cur,rfl,hb,_⟩
  ·cases hg
  ·have hg':some g2=some g:=hg;cases hg';exact hb
 ·by_cases hroom:l.length+b.size≤cap
  ·have hq:=Lib.run_append_room_string (P:=P) w t ts ty e i ht hts hi hz1 g l.length cap cur hg b hroom (by rw[hcs];omega);rw[hrun] at hq;obtain⟨rfl,_⟩:=Result.ok.inj hq;exact .inl rfl
  ·have holds:∀j u,(l.map Qab)[j]? =some u→w.cell? ((⟨g,0,none⟩:Addr).add j)=some u:=hr.cells (g:=g) rfl;have hq:=Lib.run_append_grow_string (P:=P) w t ts ty e i (.int .u8 0) ht hts hi hz ⟨g,0,none⟩ l.length cap (l.map Qab) (by rw[hz1];simp) holds b (by omega) (by omega) (by rw[hz2];exact growslice_fits (by omega) (by omega));rw[hrun] at hq;obtain⟨rfl,_⟩:=Result.ok.inj hq;exact .inr fun g' hg'=>by have:some w.heap.size=some g':=hg';cases this;exact Nat.le_refl _
theorem wpList_catT {P:Program}{w:World}{ops:Array Oper}{rest:List Oper}{o:Oper}{a:Act}{Q:Exit→Act→World→Prop}(hgd:o.guard=none)(s x:Operand)(t ts:TypeId) (ho:o.op=.call {callee:=.builtin .append,args:=#[s,x],argTypes:=#[t,ts]}) (base:Nat) (e:TypeId) (ht:P.underlying t=some (.slice e)) (hts:P.underlying ts=some .string) (hinfo:(P.info? e).map (fun i=>(i.zero,i.size,i.bytes))=some (some (.int .u8 0),1,1)) (v:Value) (l:List UInt8) (hs:a.eval s=v) (hown:Own w base e v l) (b:ByteArray) (hx:a.eval x=.string b) (hbytes:l.length+b.size≤140737488355328) (hbase:base≤w.heap.size) (h:∀v' w',Own w' base e v' (l++b.data.toList)→w.grownBy w' v.ownBlock→(v'.ownBlock=v.ownBlock∨∀g,v'.ownBlock=some g→w.heap.size≤g)→wpList P ops Q rest (a.put o.dst v') w'):wpList P ops Q (o::rest) a w:=
 wpList_plain hgd fun K hK=>by
  obtain⟨v',w',hrun,h2,h3,h4⟩:=run_catS base t ts o.type e ht hts hinfo v l hown b hbytes hbase;unfold Oper.wp execOp;simp only[ho,resolve,invoke,builtin,Sem.run_bind,Sem.run_pure,Result.andThen_ok,List.map_toArray,List.map_cons,List.map_nil,hs,hx,hrun];exact hK _ _ (h v' w' h2 h3 h4)
theorem ownB_keep {w w':World}{base:Nat}{e:TypeId}{v:Value}{l:List UInt8}(h:Own w base e v l)(hk:∀g,v.ownBlock=some g→w'.heap[g]? =w.heap[g]?):Own w' base e v l:=by
 refine Qdk ?_;have hr:=h.rowB;refine⟨hr.1,?_⟩;rcases hr.2 with hn|⟨g,cap,cur,rfl,hb,hg,rest⟩
 ·exact .inl hn
 ·exact .inr ⟨g,cap,cur,rfl,hb,(hk g rfl).trans hg,rest⟩
structure WS (w:World)(P base:Nat)(v:Value)(l:List UInt8):Prop where
 p:ABoxZ w P 196 [v]
 own:Own w base 5 v l
 lt:P<base
 bs:base≤w.heap.size
structure Mov (w:World)(P:Nat)(v:Value)(w':World)(v':Value):Prop where
 os:w'.os=w.os
 tape:w'.tape=w.tape
 output:w'.output=w.output
 size:w.heap.size≤w'.heap.size
 block:∀i,i<w.heap.size→i≠P→some i≠v.ownBlock→w'.heap[i]? =w.heap[i]?
 row:v'.ownBlock=v.ownBlock∨∀g,v'.ownBlock=some g→w.heap.size≤g
theorem Mov.refl (w:World)(P:Nat)(v:Value):Mov w P v w v:=⟨rfl,rfl,rfl,Nat.le_refl _,fun _ _ _ _=>rfl,.inl rfl⟩
theorem Mov.trans {w w1 w2:World}{P:Nat}{v v1 v2:Value}(h:Mov w P v w1 v1)(k:Mov w1 P v1 w2 v2):Mov w P v w2 v2:=by
 refine⟨k.os.trans h.os,k.tape.trans h.tape,k.output.trans h.output,Nat.le_trans h.size k.size,fun i hi hp hr=>?_,?_⟩
 ·refine(k.block i (by have:=h.size;omega) hp ?_).trans (h.block i hi hp hr);rcases h.row with e|e
  ·rw[e];exact hr
  ·intro he;have:=e i he.symm;omega
 ·rcases k.row with e|e
  ·rcases h.row with f|f
   ·exact .inl (e.trans f)
   ·exact .inr (fun g hg=>f g (e▸hg))
  ·exact .inr (fun g hg=>Nat.le_trans h.size (e g hg))
theorem Mov.below {B:Nat}{w0 w w':World}{P:Nat}{v v':Value}(hb:Below B w0 w)(h:Mov w P v w' v')(hB:B≤w.heap.size)(hP:B≤P)(hv:∀g,v.ownBlock=some g→B≤g):Below B w0 w':=
 ⟨h.os.trans hb.os,h.tape.trans hb.tape,h.output.trans hb.output,Nat.le_trans hb.size h.size,fun i hi=>(h.block i (by omega) (by omega) (fun e=>by have:=hv i e.symm;omega)).trans (hb.block i hi)⟩
theorem WS.box5 {w w5:World}{P base:Nat}{v:Value}{l:List UInt8}{o:Obj}(h:WS w P base v l)(hg:(w.alloc o).grownBy w5 v.ownBlock):ABoxZ w5 P 196 [v]:=by
 have hlt:=h.p.lt;have hpv:some P≠v.ownBlock:=fun e=>by have:=(h.own.lt P e.symm).1;have:=h.lt;omega
 exact(hg.block P (by simp;omega) hpv).trans ((Below.heap_alloc w o P hlt).trans h.p)
theorem WS.box6 {w w5:World}{P base:Nat}{v:Value}{l:List UInt8}(h:WS w P base v l)(hg:w.grownBy w5 v.ownBlock):ABoxZ w5 P 196 [v]:=by
 have hpv:some P≠v.ownBlock:=fun e=>by have:=(h.own.lt P e.symm).1;have:=h.lt;omega
 exact(hg.block P h.p.lt hpv).trans h.p
theorem WS.push {w w5:World}{P base:Nat}{v:Value}{l m:List UInt8}{v5:Value}{o:Obj}(h:WS w P base v l)(hown:Own w5 base 5 v5 m)(hg:(w.alloc o).grownBy w5 v.ownBlock)(hat:v5.ownBlock=v.ownBlock∨∀g,v5.ownBlock=some g→w.heap.size≤g):
 WS (w5.setCell ⟨P,0,none⟩ v5) P base v5 m∧Mov w P v (w5.setCell ⟨P,0,none⟩ v5) v5:=by
 have hz:w.heap.size+1≤w5.heap.size:=by have:=hg.size;simpa using this
 have hlt:=h.p.lt;have hbs:=h.bs;have hpv:some P≠v.ownBlock:=fun e=>by have:=(h.own.lt P e.symm).1;have:=h.lt;omega
 have hp5:ABoxZ w5 P 196 [v]:=(hg.block P (by simp;omega) hpv).trans ((Below.heap_alloc w o P hlt).trans h.p);refine⟨⟨hp5.set 0 v5,?_,h.lt,by simp;omega⟩,⟨?_,?_,?_,by simp;omega,fun i hi hp hr=>?_,hat⟩⟩
 ·exact ownB_keep hown (fun g hg'=>Qal _ _ _ _ (by have:=(hown.lt g hg').1;have:=h.lt;omega))
 ·exact hg.os
 ·exact hg.tape
 ·exact hg.output
 ·exact(Qal _ _ _ _ hp).trans ((hg.block i (by simp;omega) hr).trans (Below.heap_alloc w o i hi))
theorem WS.cat {w w5:World}{P base:Nat}{v:Value}{l m:List UInt8}{v5:Value}(h:WS w P base v l)(hown:Own w5 base 5 v5 m)(hg:w.grownBy w5 v.ownBlock)(hat:v5.ownBlock=v.ownBlock∨∀g,v5.ownBlock=some g→w.heap.size≤g):
 WS (w5.setCell ⟨P,0,none⟩ v5) P base v5 m∧Mov w P v (w5.setCell ⟨P,0,none⟩ v5) v5:=by
 have hz:w.heap.size≤w5.heap.size:=hg.size;have hlt:=h.p.lt;have hbs:=h.bs;have hpv:some P≠v.ownBlock:=fun e=>by have:=(h.own.lt P e.symm).1;have:=h.lt;omega
 have hp5:ABoxZ w5 P 196 [v]:=(hg.block P hlt hpv).trans h.p;refine⟨⟨hp5.set 0 v5,?_,h.lt,by simp;omega⟩,⟨?_,?_,?_,by simp;omega,fun i hi hp hr=>?_,hat⟩⟩
 ·exact ownB_keep hown (fun g hg'=>Qal _ _ _ _ (by have:=(hown.lt g hg').1;have:=h.lt;omega))
 ·exact hg.os
 ·exact hg.tape
 ·exact hg.output
 ·exact(Qal _ _ _ _ hp).trans (hg.block i hi hr)
set_option maxRecDepth 100000 in
theorem uint_any (P base:Nat)(v:Value)(l:List UInt8)(n:Nat)(w:World)(h:WS w P base v l)(hn:n<18446744073709551616)(hl:l.length≤1073741824):
 Calls Tryz.prog 142 #[.pointer (some ⟨P,0,none⟩),.int .u64 (n:Int)] w fun e w'=>e=.returned (.tuple #[])∧∃v',WS w' P base v' (l++QbT n)∧Mov w P v w' v':=by
 have HW:=Lh h;have HL:=Lh hl;have HNN:=Lh hn;clear h hl hn;go_enter Tryz.func142,Tryz.ntmps142;go_wp2_with fail;go_loopw [1] (fun x wr=>∃(m:Nat) (v1:Value) (l1:List UInt8),x=.int .u64 (m:Int)∧m≤n∧Hid (QbT n=l1++QbT m)∧Hid (WS wr P base v1 (l++l1))∧Hid (Mov w P v wr v1)) (fun x _=>(intOf x).toNat);(case atStart=>exact⟨n,v,[],rfl,Nat.le_refl _,rfl,by rw[List.append_nil];exact HW,Lh (Mov.refl _ _ _)⟩);case round=>
  obtain⟨m,v1,l1,rfl,hm,hu,hws,hmv⟩:=hrel;by_cases hge:128≤m
  ·have hge':(128:Int)≤(m:Int):=by omega
   have HUB:=Lh (uintB_ge hge (by have:=HNN.out;omega));have q1:=or128 m;have q2:(m:Int)/128=((m/128:Nat):Int):=(by omega);have HM2:Hid (m/128≤n∧m/128<m):=Lh ⟨by omega,by omega⟩;have hm0:(0:Int)≤(m:Int):=(by omega);generalize UInt8.ofNat (m%128+128)=by8 at*;generalize m/128=m2 at*;have HOA:=Lh (hws.out.own.alloc (.cells #[.int .u8 (by8.toNat:Int)] 5));have hcA:(wr.alloc (.cells #[.int .u8 (by8.toNat:Int)] 5)).cell? ⟨P,0,none⟩=some v1:=(hws.out.p.to ((Below.refl wr.heap.size wr).alloc nL _)).cell 0 rfl;have hcP:=hws.out.p.cell 0 rfl;have HBS:=Lh hws.out.bs;have hfz:=hws.out.p.fz
   have HLN:Hid ((l++l1).length≤1073741900):=Lh (by
    have h1:=Qbb n
    have h2:=congrArg List.length hu.out
    have h3:=HL.out
    rw[qA] at h2 ⊢;omega)
   obtain⟨l5,hl5⟩:∃l5,l5=l++l1:=⟨_,rfl⟩;rw[←hl5] at HOA HLN hws;have HL5:=Lh hl5;clear hl5;go_wp2_with (at_builtin;refine Qav (α:=UInt8) _ rfl (.tmp 13) (.tmp 17) 158 rfl base 5 (.int .u8 0) 1 Tryz.underlying158 Qcd rfl (by decide) v1 l5 rfl HOA.out wr.heap.size #[.int .u8 (by8.toNat:Int)] by8 (0,0) 5 rfl (heap_alloc_new wr _) rfl (by have:=HLN.out;omega) (by have:=HLN.out;omega) (by have:=HBS.out;simp;omega) (wr.heap.size+1) (by simp) ?_;intro g5 cap5 w5 hown5 hg5 ho5 hlt5;have hp5:=hws.out.box5 hg5;have k5:=hp5.cell 0 rfl;have f5:=hp5.fz);have hat:(Value.slice (some ⟨g5,0,none⟩) (l5.length+1) cap5).ownBlock=v1.ownBlock∨∀g,(Value.slice (some ⟨g5,0,none⟩) (l5.length+1) cap5).ownBlock=some g→wr.heap.size≤g:=by
    rcases ho5 with e|e
    ·exact .inl (by rw[e];rfl)
    ·exact .inr (fun g hg=>by have hg':some g5=some g:=hg;cases hg';omega)
   obtain⟨hws2,hmv2⟩:=hws.out.push hown5 hg5 hat;exact⟨⟨m2,_,l1++[by8],rfl,HM2.out.1,Lh (by rw[hu.out,HUB.out,List.append_assoc];rfl),Lh (by rw[←List.append_assoc,←HL5.out];exact hws2),Lh (hmv.out.trans hmv2)⟩,by have:=HM2.out.2;simp[intOf];omega⟩
  ·have hge':¬(128:Int)≤(m:Int):=by omega
   have HUB:=Lh (uintB_lt (n:=m) (by omega));have HBM:Hid ((m:Int)=((UInt8.ofNat m).toNat:Int)):=Lh (by rw[UInt8.toNat_ofNat'];omega);have hm0:(0:Int)≤(m:Int):=(by omega);generalize UInt8.ofNat m=by8 at*;have HOA:=Lh (hws.out.own.alloc (.cells #[.int .u8 (m:Int)] 5));have hcA:(wr.alloc (.cells #[.int .u8 (m:Int)] 5)).cell? ⟨P,0,none⟩=some v1:=(hws.out.p.to ((Below.refl wr.heap.size wr).alloc nL _)).cell 0 rfl;have hcP:=hws.out.p.cell 0 rfl;have HBS:=Lh hws.out.bs;have hfz:=hws.out.p.fz
   have HLN:Hid ((l++l1).length≤1073741900):=Lh (by
    have h1:=Qbb n
    have h2:=congrArg List.length hu.out
    have h3:=HL.out
    rw[qA] at h2 ⊢;omega)
   obtain⟨l5,hl5⟩:∃l5,l5=l++l1:=⟨_,rfl⟩;rw[←hl5] at HOA HLN hws;have HL5:=Lh hl5;clear hl5;go_wp2_with (at_builtin;refine Qav (α:=UInt8) _ rfl (.tmp 27) (.tmp 30) 158 rfl base 5 (.int .u8 0) 1 Tryz.underlying158 Qcd rfl (by decide) v1 l5 rfl HOA.out wr.heap.size #[.int .u8 (m:Int)] by8 (0,0) 5 rfl (heap_alloc_new wr _) (by show[Value.int .u8 (m:Int)]=[Value.int .u8 (by8.toNat:Int)];rw[HBM.out]) (by have:=HLN.out;omega) (by have:=HLN.out;omega) (by have:=HBS.out;simp;omega) (wr.heap.size+1) (by simp) ?_;intro g5 cap5 w5 hown5 hg5 ho5 hlt5;have hp5:=hws.out.box5 hg5;have k5:=hp5.cell 0 rfl;have f5:=hp5.fz);have hat:(Value.slice (some ⟨g5,0,none⟩) (l5.length+1) cap5).ownBlock=v1.ownBlock∨∀g,(Value.slice (some ⟨g5,0,none⟩) (l5.length+1) cap5).ownBlock=some g→wr.heap.size≤g:=by
    rcases ho5 with e|e
    ·exact .inl (by rw[e];rfl)
    ·exact .inr (fun g hg=>by have hg':some g5=some g:=hg;cases hg';omega)
   obtain⟨hws2,hmv2⟩:=hws.out.push hown5 hg5 hat;go_end0;exact⟨rfl,_,by rw[hu.out,HUB.out,←List.append_assoc,←HL5.out];exact hws2,hmv.out.trans hmv2⟩
set_option maxRecDepth 100000 in
theorem int_any (P base:Nat)(v:Value)(l:List UInt8)(n:Int)(w:World)(h:WS w P base v l)(hn:I64Z n)(hl:l.length≤1073741824):
 Calls Tryz.prog 140 #[.pointer (some ⟨P,0,none⟩),.int .i64 n] w fun e w'=>e=.returned (.tuple #[])∧∃v',WS w' P base v' (l++intB n)∧Mov w P v w' v':=by
 have HU:=Lh (uint_any P base v l (zig n) w h (zig_lt hn) hl);have q1:=zig_bits n hn;unfold intB;generalize zig n=z at*;clear h hn hl;go_enter Tryz.func140,Tryz.ntmps140;go_wp2_with fail;refine HU.out.mono ?_;rintro e w1 ⟨rfl,v1,hws,hmv⟩;have HWS:=Lh hws;have HMV:=Lh hmv;clear hws hmv HU;go_wp2_with fail;go_end0;exact⟨rfl,v1,HWS.out,HMV.out⟩
set_option maxRecDepth 100000 in
theorem text_anyZ (P base:Nat)(v:Value)(l:List UInt8)(s:ByteArray)(w:World)(h:WS w P base v l)(hl:l.length≤1073741000)(hs:s.size≤1073741824):
 Calls Tryz.prog 141 #[.pointer (some ⟨P,0,none⟩),.string s] w fun e w'=>e=.returned (.tuple #[])∧∃v',WS w' P base v' (l++Qbl s)∧Mov w P v w' v':=by
 have HU:=Lh (uint_any P base v l s.size w h (by omega) (by omega));have HSL:Hid (∀l5:List UInt8,(l5++s.data.toList).length=l5.length+s.size):=Lh (fun l5=>by rw[qA,Array.length_toList];rfl);have HL:Hid ((l++QbT s.size).length≤1073741824):=Lh (by rw[qA];have:=Qbb s.size;omega);have HTB:Hid (l++Qbl s=l++QbT s.size++s.data.toList):=Lh (by rw[List.append_assoc];rfl);clear h hl;go_enter Tryz.func141,Tryz.ntmps141;go_wp2_with fail;refine HU.out.mono ?_;rintro e w1 ⟨rfl,v1,hws,hmv⟩;have HWS:=Lh hws;have HMV:=Lh hmv;obtain⟨l5,hl5⟩:∃l5,l5=l++QbT s.size:=⟨_,rfl⟩;rw[←hl5] at HWS HTB HL;have hcP:=HWS.out.p.cell 0 rfl;clear hl5 hws hmv HU;go_wp2_with (at_builtin;refine wpList_catT rfl (.tmp 14) (.tmp 15) 158 9 rfl base 5 Tryz.underlying158 Tryz.underlying9 Qcd v1 l5 rfl HWS.out.own s rfl (by have:=HL.out;omega) HWS.out.bs ?_;intro v5 w5 hown5 hg5 hat5;obtain⟨A5,c5,rfl,hsl5⟩:=hown5.sl;have hp5:=HWS.out.box6 hg5;have k5:=hp5.cell 0 rfl;have f5:=hp5.fz);go_end0;have hL:=HSL.out l5;obtain⟨hws2,hmv2⟩:=HWS.out.cat hown5 hg5 hat5;rw[hL] at hws2 hmv2;exact⟨rfl,_,by rw[HTB.out];exact hws2,HMV.out.trans hmv2⟩
theorem bclone_any (A:Option Addr)(c n:Nat)(l:List UInt8)(w:World)(hl:Sl w (fun b=>b<w.heap.size) A c l)(hn:l.length=n)(hsz:n≤68719476736):
 Calls Tryz.prog 181 #[.slice A n c] w fun e w'=>∃v,e=.returned v∧Own w' w.heap.size 5 v l∧Below w.heap.size w w':=by
 have hq:=fun w'=>Lib.run_eql_slice_nil (P:=Tryz.prog) w' 158 5 A n c 0 0 Tryz.underlying158
 cases A with
 |none=>
  have hl0:l=[]:=by
   by_cases h0:0<l.length
   ·obtain⟨b,o,e,_⟩:=hl.2.2 h0;cases e
   ·exact List.eq_nil_of_length_eq_zero (by omega)
  subst hl0;simp only[Option.isNone_none] at hq;go_enter Tryz.func181,Tryz.ntmps181;go_wp2_with fail;go_ret;exact⟨_,rfl,Own.nil _ _ _,Below.refl _ _⟩
 |some a=>
  simp only[Option.isNone_some] at hq;go_enter Tryz.func181,Tryz.ntmps181;go_wp2_with (at_builtin;refine QaC (α:=UInt8) _ rfl (.tmp 5) (.tmp 6) 158 rfl w.heap.size 5 (.int .u8 0) 1 Tryz.underlying158 Qcd rfl (by decide) (.slice (some ⟨w.heap.size,0,none⟩) 0 0) [] rfl (Own.made w _ _ nL) (some a) c n l rfl hn (fun b=>b<w.heap.size) (hl.keep (Kept.all (bR.alloc nL _)) (by simp)) (by intro i (hi:i<w.heap.size) _ e;simp[Value.ownBlock] at e;omega) (by simp;omega) (by simp;omega) (by simp) ?_;intro v2 w2 hown2 hg2 _);go_ret;exact⟨_,rfl,hown2,QaL (bR.alloc nL _) (Own.made (α:=UInt8) w _ _ nL) (by simp) hg2⟩
theorem WS.slB {w:World}{P base:Nat}{v:Value}{l:List UInt8}(h:WS w P base v l):∃A c,v=.slice A l.length c∧Sl w (fun b=>b<w.heap.size) A c l:=h.own.sl
theorem done_any (P base:Nat)(v:Value)(l:List UInt8)(w:World)(h:WS w P base v l)(hl:l.length≤1073741824):
 Calls Tryz.prog 143 #[.pointer (some ⟨P,0,none⟩)] w fun e w'=>∃v',e=.returned v'∧Own w' w.heap.size 5 v' l∧Below w.heap.size w w':=by
 obtain⟨A,c,rfl,hs⟩:=h.slB;have HC:=Lh (bclone_any A c l.length l w hs rfl (by omega));have hcP:=h.p.cell 0 rfl;clear h hs hl;go_enter Tryz.func143,Tryz.ntmps143;go_wp2_with fail;refine HC.out.mono ?_;rintro e w1 ⟨v1,rfl,hown,hb⟩;have HO:=Lh hown;have HB:=Lh hb;clear hown hb;go_wp2_with fail;go_ret;exact⟨_,rfl,HO.out,HB.out⟩
instance repStrZ:Rep ByteArray where
 size:=1
 R _ _ cs s:=cs=[.string s]
 len h:=by subst h;rfl
 one h:=by subst h;intro u hu;simp at hu;subst hu;rfl
 keep h _:=h
 mono h _:=h
structure Sheet where
 label:ByteArray
 body:List ByteArray
 notes:List ByteArray
def Qbm (branch:Int)(s:Sheet):List UInt8:=intB branch++Qbl s.label++QbQ s.body++QbQ s.notes
def leafOf (branch:Int)(s:Sheet):List UInt8:=QcF (Qbm branch s)
structure LS (w wr:World)(P R:Nat)(v:Value)(l:List UInt8):Prop where
 eR:R=w.heap.size+1
 eP:P=w.heap.size+2
 ws:WS wr P (P+1) v l
 r:ABoxZ wr R 101 (Qaf.map Qab)
 b:Below w.heap.size w wr
theorem LS.mov {w wr w':World}{P R:Nat}{v v':Value}{l l':List UInt8}(h:LS w wr P R v l)(hw:WS w' P (P+1) v' l')(hm:Mov wr P v w' v'):LS w w' P R v' l':=by
 have h1:=h.eR;have h2:=h.eP;exact⟨h1,h2,hw,(hm.block R h.r.lt (by omega) (fun e=>by have:=(h.ws.own.lt R e.symm).1;omega)).trans h.r,hm.below h.b h.b.size (by omega) (fun g hg=>by have:=(h.ws.own.lt g hg).1;omega)⟩
theorem LS.to {w wr w':World}{P R:Nat}{v:Value}{l:List UInt8}(h:LS w wr P R v l)(hb:Below wr.heap.size wr w'):LS w w' P R v l:=
 ⟨h.eR,h.eP,⟨h.ws.p.to hb,h.ws.own.below hb,h.ws.lt,Nat.le_trans h.ws.bs hb.size⟩,h.r.to hb,h.b.trans (hb.mono h.b.size)⟩
structure QS (wr:World)(P Q:Nat)(v:Value)(t:TypeId)(cs:List Value):Prop where
 q:ABoxZ wr Q t cs
 np:Q≠P
 nr:some Q≠v.ownBlock
theorem QS.mov {wr w':World}{P Q:Nat}{v v':Value}{t:TypeId}{cs:List Value}(h:QS wr P Q v t cs)(hm:Mov wr P v w' v'):QS w' P Q v' t cs:=by
 refine⟨(hm.block Q h.q.lt h.np h.nr).trans h.q,h.np,?_⟩;rcases hm.row with e|e
 ·rw[e];exact h.nr
 ·intro he;have:=e Q he.symm;have:=h.q.lt;omega
def Qbn (s:Sheet):Nat→List UInt8
 |0=>[]
 |1=>QbQ s.body
 |_=>QbQ s.body++QbQ s.notes
theorem flat_takeZ (L:List ByteArray)(j:Nat)(h:j<L.length):(L.take (j+1)).flatMap Qbl=(L.take j).flatMap Qbl++Qbl L[j]:=by
 rw[qT h,List.flatMap_append];simp
theorem flat_le (L:List ByteArray)(j:Nat):((L.take j).flatMap Qbl).length≤(L.flatMap Qbl).length:=by
 (conv=>rhs;rw[←List.take_append_drop j L]);rw[List.flatMap_append,qA];omega
theorem uintB_pos (n:Nat):1≤(QbT n).length:=by
 unfold QbT QdY;split<;>simp
theorem flat_ge:∀(L:List ByteArray),L.length≤(L.flatMap Qbl).length
 |[]=>by simp
 |s::L=>by
  rw[List.flatMap_cons,qA,qC];have h1:=flat_ge L;have h2:1≤(Qbl s).length:=(by unfold Qbl;rw[qA];have:=uintB_pos s.size;omega);omega
theorem textB_size (s:ByteArray):s.size≤(Qbl s).length:=by
 have:s.data.toList.length=s.size:=by rw[Array.length_toList];rfl
 unfold Qbl;rw[qA,this];omega
theorem str_atZ {w:World}{S:Nat→Prop}{A:Option Addr}{c:Nat}{l:List ByteArray}(h:Sl w S A c l){k:Nat}(hk:k<l.length):
 ∃b o,A=some ⟨b,o,none⟩∧S b∧b<w.heap.size∧w.cell? ⟨b,o+k,none⟩=some (.string l[k]):=by
 obtain⟨b,o,es,rfl,hb,hlt,he,hc⟩:=h.at_ hk;have he':es=[.string l[k]]:=he;subst he';have:=hc 0 _ rfl;exact⟨b,o,rfl,hb,hlt,by simpa[Rep.size] using this⟩
theorem QdT (branch:Int)(s:Sheet):Qbm branch s=intB branch++Qbl s.label++Qbn s 2:=by
 unfold Qbm Qbn;simp[List.append_assoc]
theorem part_of {wr w:World}{Q P:Nat}{v:Value}{s:Sheet}{A B:Option Addr}{c d:Nat}(hq:QS wr P Q v 44 [.slice A s.body.length c,.slice B s.notes.length d])(ha:Sl w (fun b=>b<w.heap.size) A c s.body)(hb:Sl w (fun b=>b<w.heap.size) B d s.notes)(k:Nat)(hk:k<2):
 ∃(L:List ByteArray) (AL:Option Addr) (cL:Nat),wr.cell? ⟨Q,k,none⟩=some (.slice AL L.length cL)∧Sl w (fun b=>b<w.heap.size) AL cL L∧Qbn s (k+1)=Qbn s k++QbQ L∧(Qbn s (k+1)).length≤(Qbn s 2).length:=by
 have:k=0∨k=1:=by omega
 rcases this with rfl|rfl
 ·exact⟨s.body,A,c,hq.q.cell 0 rfl,ha,rfl,by unfold Qbn;simp⟩
 ·exact⟨s.notes,B,d,hq.q.cell 1 rfl,hb,rfl,Nat.le_refl _⟩
set_option maxRecDepth 100000 in
theorem Qck (branch:Int)(s:Sheet)(A B:Option Addr)(c d:Nat)(w:World)(hbr:I64Z branch)(ha:Sl w (fun b=>b<w.heap.size) A c s.body)(hb:Sl w (fun b=>b<w.heap.size) B d s.notes)(hsz:(Qbm branch s).length≤1073740000)(hK:KLaid w):
 Calls Tryz.prog 99 #[.int .i64 branch,.agg #[.string s.label,.slice A s.body.length c,.slice B s.notes.length d]] w fun e w'=>e=.returned (Qar (leafOf branch s))∧Below w.heap.size w w':=by
 have HA:=Lh ha;have HB:=Lh hb;have HK:=Lh hK;have HBR:=Lh hbr;have HSZ:=Lh hsz;clear ha hb hK hbr hsz;go_enter Tryz.func99,Tryz.ntmps99;go_upto_region 2 with(fail);generalize hw1:(World.alloc (World.alloc (World.alloc w _) _) _)=w1;have HLS:Hid (LS w w1 (w.heap.size+2) (w.heap.size+1) (.slice none 0 0) []):=by
  subst hw1;exact Lh ⟨rfl,rfl,⟨Qai (by simp),Own.nil _ _ _,by omega,by simp⟩,(Below.heap_alloc _ _ _ (by simp)).trans (Qai (by simp)),((bR.alloc nL _).alloc (by simp) _).alloc (by first|(simp;done)|(simp;omega)) _⟩
 have HD:Hid (ABoxZ w1 w.heap.size 46 [.string s.label,.slice A s.body.length c,.slice B s.notes.length d]):=by
  subst hw1;exact Lh ((Below.heap_alloc _ _ _ (by first|(simp;done)|(simp;omega))).trans ((Below.heap_alloc _ _ _ (by simp)).trans (Qai rfl)))
 clear hw1;have eP:w.heap.size+1+1=w.heap.size+2:=by omega
 rw[eP];clear eP;generalize w.heap.size+1=R at*;generalize w.heap.size+2=P at*;have HQD:Hid (QS w1 P w.heap.size (.slice none 0 0) 46 [.string s.label,.slice A s.body.length c,.slice B s.notes.length d]):=Lh ⟨HD.out,by have:=HLS.out.eP;omega,by simp[Value.ownBlock]⟩;have HTOT:Hid ((intB branch).length+(Qbl s.label).length+(Qbn s 2).length≤1073740000):=Lh (by have:=HSZ.out;rw[QdT] at this;simpa[qA,Nat.add_assoc] using this);have HI:=Lh (int_any P (P+1) _ [] branch w1 HLS.out.ws HBR.out (by simp));rw[List.nil_append] at HI;clear HD;go_wp2_with fail;refine HI.out.mono ?_;rintro e w2 ⟨rfl,v2,hws2,hmv2⟩;have HLS2:=Lh (HLS.out.mov hws2 hmv2);have HQD2:=Lh (HQD.out.mov hmv2);clear hws2 hmv2 HLS HQD HI;have HT:=Lh (text_anyZ P (P+1) v2 (intB branch) s.label w2 HLS2.out.ws (by have:=HTOT.out;omega) (by have:=HTOT.out;have:=textB_size s.label;omega));have k0:=HQD2.out.q.cell 0 rfl;go_wp2_with fail;refine HT.out.mono ?_;rintro e w3 ⟨rfl,v3,hws3,hmv3⟩;have HLS3:=Lh (HLS2.out.mov hws3 hmv3);have HQD3:=Lh (HQD2.out.mov hmv3);clear hws3 hmv3 HLS2 HQD2 HT k0;have k1:=HQD3.out.q.cell 1 rfl;have k2:=HQD3.out.q.cell 2 rfl;go_wp2_with fail;have hba:Below w3.heap.size w3 (w3.alloc (.cells #[.slice A s.body.length c,.slice B s.notes.length d] 44)):=bR.alloc nL _;have HQ:Hid (QS (w3.alloc (.cells #[.slice A s.body.length c,.slice B s.notes.length d] 44)) P w3.heap.size v3 44 [.slice A s.body.length c,.slice B s.notes.length d]):=Lh ⟨heap_alloc_new w3 _,by have:=HLS3.out.ws.p.lt;omega,fun e=>by have:=(HLS3.out.ws.own.lt _ e.symm).2;omega⟩;have HLSa:=Lh (HLS3.out.to hba);clear hba HLS3 HQD3 k1 k2;generalize (w3.alloc (.cells #[.slice A s.body.length c,.slice B s.notes.length d] 44))=w4 at*;generalize w3.heap.size=Q at*;obtain⟨pre,hpre⟩:∃pre,pre=intB branch++Qbl s.label:=⟨_,rfl⟩;have HPL:Hid (pre.length+(Qbn s 2).length≤1073740000):=Lh (by have:=HTOT.out;rw[hpre,qA];omega);have HE:Hid (leafOf branch s=QcF (pre++Qbn s 2)):=Lh (by rw[leafOf,QdT,hpre]);have HLSb:Hid (LS w w4 P R v3 (pre++Qbn s 0)):=Lh (by rw[hpre,Qbn,List.append_nil];exact HLSa.out);clear HLSa hpre HTOT HSZ;go_loopw [7,9,21] (fun _ _ i wr=>∃(k:Nat) (v1:Value),k≤2∧i=.int .i64 k∧Hid (LS w wr P R v1 (pre++Qbn s k))∧Hid (QS wr P Q v1 44 [.slice A s.body.length c,.slice B s.notes.length d])) (fun _ _ i _=>2-(intOf i).toNat);(case atStart=>exact⟨0,v3,by omega,rfl,HLSb,HQ⟩);case round=>
  obtain⟨k,v1,hk,rfl,hls,hqs⟩:=hrel;by_cases hlt:k<2
  ·have hlt2:(k:Int)<2:=by omega
   have hk0:(0:Int)≤(k:Int):=(by omega);obtain⟨L,AL,cL,hcell,hsl,hpk,hple⟩:=part_of hqs.out HA.out HB.out k hlt;have HSL:=Lh hsl;have HPK:=Lh hpk;have HLE:Hid ((pre++Qbn s k).length+(QbQ L).length≤1073740000):=Lh (by have h1:=HPL.out;have h2:=congrArg List.length hpk;rw[qA] at h2 ⊢;omega);have hLL:L.length≤maxLen:=(by have h1:=hsl.1;have h2:=hsl.2.1;omega);have hLL2:L.length<18446744073709551616:=(by unfold maxLen at hLL;omega);have HLL2:=Lh hLL2;clear hsl hpk hple hLL hLL2;generalize hpk1:Qbn s (k+1)=pk1 at*;have HPK1:=Lh hpk1;clear hpk1;obtain⟨l0,hl0⟩:∃l0,l0=pre++Qbn s k:=⟨_,rfl⟩;have HL0:=Lh hl0;rw[←hl0] at hls HLE;clear hl0;have HU:=Lh (uint_any P (P+1) v1 l0 L.length wr hls.out.ws HLL2.out (by have:=HLE.out;omega));have hwl:IntKind.u64.wrap (L.length:Int)=(L.length:Int):=IntWalk.u64_in _ (by have:=HLL2.out;omega);go_wp2_with fail;refine HU.out.mono ?_;rintro e w5 ⟨rfl,v5,hws5,hmv5⟩;have HLS5:=Lh (hls.out.mov hws5 hmv5);have HQ5:=Lh (hqs.out.mov hmv5);clear hws5 hmv5 hls hqs HU hwl hcell;go_wp2_with fail;have hLb:(L.length:Int)≤1073740000:=by
    have h1:=HLE.out;have h2:=flat_ge L;have h3:(QbQ L).length=(QbT L.length).length+(L.flatMap Qbl).length:=(by unfold QbQ;rw[qA]);omega
   obtain⟨wo,rfl⟩:∃wo:World,wo=wr:=⟨_,rfl⟩;go_loopw [9,31] (fun _ i wr=>∃(j:Nat) (v1:Value),j≤L.length∧i=.int .i64 j∧Hid (LS w wr P R v1 (l0++QbT L.length++(L.take j).flatMap Qbl))∧Hid (QS wr P Q v1 44 [.slice A s.body.length c,.slice B s.notes.length d])) (fun _ i _=>L.length-(intOf i).toNat);(case atStart=>exact⟨0,v5,by omega,rfl,by rw[List.take_zero,List.flatMap_nil,List.append_nil];exact HLS5,HQ5⟩);case round=>
    obtain⟨j,v6,hj,rfl,hls6,hqs6⟩:=hrel;by_cases hjl:j<L.length
    ·have hjl2:(j:Int)<(L.length:Int):=by omega
     have hj0:(0:Int)≤(j:Int):=(by omega);obtain⟨bL,oL,rfl,_,_,hx⟩:=str_atZ (HSL.out.to hls6.out.b) hjl;have HFT:=Lh (flat_takeZ L j hjl);have HFL:=Lh (flat_le L (j+1));have HTB:Hid ((QbQ L).length=(QbT L.length).length+(L.flatMap Qbl).length):=Lh (by unfold QbQ;rw[qA]);generalize L[j]=x at*;have HXB:=Lh (textB_size x);obtain⟨l6,hl6⟩:∃l6,l6=l0++QbT L.length++(L.take j).flatMap Qbl:=⟨_,rfl⟩
     have HB6:Hid (l6.length+(Qbl x).length≤1073740000):=Lh (by
      have h1:=HLE.out;have h2:=congrArg List.length HFT.out;have h3:=HFL.out;have h4:=HTB.out
      rw[qA] at h2
      rw[hl6,qA,qA];omega)
     have HL6:Hid (l0++QbT L.length++(L.take (j+1)).flatMap Qbl=l6++Qbl x):=Lh (by rw[HFT.out,hl6,List.append_assoc,List.append_assoc,List.append_assoc]);rw[←hl6] at hls6;have HTX:=Lh (text_anyZ P (P+1) v6 l6 x wr hls6.out.ws (by have:=HB6.out;omega) (by have:=HB6.out;have:=HXB.out;omega));clear hl6;go_wp2_with fail;refine HTX.out.mono ?_;rintro e w7 ⟨rfl,v7,hws7,hmv7⟩;have HLS7:=Lh (hls6.out.mov hws7 hmv7);have HQ7:=Lh (hqs6.out.mov hmv7);clear hws7 hmv7 hls6 hqs6 HTX hx;go_wp2_with fail;first
      |exact⟨⟨j+1,v7,by omega,by simp,by rw[HL6.out];exact HLS7,HQ7⟩,by simp[intOf];omega⟩
      |fail
    ·obtain rfl:j=L.length:=by omega
     have HLS8:Hid (LS w wr P R v6 (pre++Qbn s (k+1))):=Lh (by
      have h:=hls6.out
      rw[List.take_length,HL0.out,List.append_assoc] at h
      rw[HPK1.out,HPK.out,←List.append_assoc];exact h)
     have HQ8:=Lh hqs6.out;clear hls6 hqs6;go_wp2_with fail;first
      |exact⟨⟨k+1,v6,by omega,by simp,HLS8,HQ8⟩,by simp[intOf];omega⟩
      |fail
  ·obtain rfl:k=2:=by omega
   have HDN:=Lh (done_any P (P+1) v1 _ wr hls.out.ws (by have:=HPL.out;rw[qA];omega));have HLS9:=Lh hls.out;clear hls hqs;go_wp2_with fail;refine HDN.out.mono ?_;rintro e w7 ⟨v7,rfl,hown7,hb7⟩;obtain⟨A7,c7,rfl,hs7⟩:=hown7.sl;have HR7:=Lh (HLS9.out.r.to hb7);have HB7:=Lh (HLS9.out.b.trans (hb7.mono HLS9.out.b.size));have HRL:Hid (w.heap.size≤R):=Lh (by have:=HLS9.out.eR;omega);have HLF:=Lh (leaf_any _ A7 _ c7 w7 hs7 rfl (by have:=HPL.out;rw[qA];omega) (HK.out.to HB7.out));have HE2:=Lh HE.out;generalize pre++Qbn s 2=enc at*;clear hown7 hs7 hb7 HLS9 HDN HE HPL HLSb;go_wp2_with fail;refine HLF.out.mono ?_;rintro e w8 ⟨rfl,hb8⟩;have HB8:=Lh (Qax (HB7.out.trans (hb8.mono HB7.out.size)) (R:=R) HRL.out ((QcF enc).map Qab).toArray);have hr8:w8.heap[R]? =some (.cells (Qaf.map Qab).toArray 101 (0,0)):=HR7.out.to hb8;have HX:=Lh (setRow_heap w8 R _ ((QcF enc).map Qab).toArray _ _ hr8);have HSZ:=Lh (QaB (Qan (0::enc)));have HC1:=Lh (QaH (QcF enc));have HRZ:Hid ((Qaf.map Qab).toArray.size=32):=Lh rfl;have HRE:Hid (Qar (leafOf branch s)=.agg ((QcF enc).map Qab).toArray):=Lh (by rw[HE2.out];rfl);have hlf:Qar (QcF enc)=.agg ((QcF enc).map Qab).toArray:=rfl;rw[hlf];have HSZ2:Hid (((QcF enc).map Qab).toArray.size=32):=HSZ;clear hb8 HR7 HB7 HLF hlf HSZ HE2;generalize ((QcF enc).map Qab).toArray=cs at*;generalize (Qaf.map Qab).toArray=zs at*
   go_wp2_with (first|(refine wpList_store_row rfl 101 (.tmp 4) (.tmp 41) rfl R cs rfl rfl 101 zs hr8 (by rw[HSZ2.out];kernel_rfl) (by rw[HRZ.out,HSZ2.out]) HC1.out ?_)|fail)
   exact bodyPost_ret (v:=.agg cs) (results_cell_row Tryz.results99 _ _ R _ cs (0,0) _ rfl HX.out Tryz.underlying101 rfl (by rw[HSZ2.out];kernel_rfl)) rfl ⟨by rw[HRE.out],HB8.out⟩
end Go.Proofs.YtegaapiocihcpaaGreatDoor
namespace Go.Proofs.YtegaapiocihcpaaGreatDoor
open Go.RowKit Go.Shelf
attribute [local go_sem] Oper.semAt_some
def upto {α:Type}(f:Nat→α)(k:Nat):List α:=(List.range k).map f
theorem QeE {α:Type}(f:Nat→α)(k:Nat):upto f (k+1)=upto f k++[f k]:=by simp[upto,List.range_succ]
theorem upto_length {α:Type}(f:Nat→α)(k:Nat):(upto f k).length=k:=by simp[upto]
def bk (l:List ByteArray)(k:Nat):Nat × ByteArray:=(l.length-1-k,l[l.length-1-k]?.getD ⟨#[]⟩)
set_option maxRecDepth 100000 in
theorem back1_in (F:Fence)(n:Nat)(h8:F.fn 182)(hro:F.round=none)(hn:1≤n)(lp Bs n₀ b off cap:Nat)(l:List ByteArray)(hreach:l.length≤4611686018427387904)(hb:b<n₀)(J Jx:List (Nat × ByteArray)→World→Prop)
 (hY:∀pre x W,J pre W→pre.length<l.length→YieldAt F (n-1) Tryz.prog lp #[.int .i64 (x.1:Int),.string x.2] W fun e W'=>
   (e=.returned (.bool true)∧J (pre++[x]) W'∧Below n₀ W W')∨(e=.returned (.bool false)∧Jx (pre++[x]) W'))
 (hBs0:Bs<n₀)
 (W:World) (hBs:W.cell? ⟨Bs,0,none⟩=some (.slice (some ⟨b,off,none⟩) l.length cap)) (hc:∀j,j<l.length→W.cell? ⟨b,off+j,none⟩=some (.string (l[j]?.getD ⟨#[]⟩))) (h0:J [] W):
 CallsIn F n Tryz.prog 182 #[.func (.yield lp) #[] #[],.pointer (some ⟨Bs,0,none⟩)] W fun e W'=>(∃v,e=.returned v)∧ ((∃ys,ys=upto (bk l) l.length∧J ys W')∨(∃pre,(∃k,k≤l.length∧pre=upto (bk l) k)∧Jx pre W')):=by
 refine callsIn_of_wp Tryz.func182 rfl h8 ?_ hro;simp only[Tryz.ntmps182,List.size_toArray,qC,List.length_nil,Nat.reduceAdd,Nat.reduceSub,Array.replicate_succ,Array.replicate_zero,List.push_toArray,List.append_toArray,List.nil_append,List.cons_append];have hl63:(l.length:Int)≤4611686018427387904:=by omega
 gi_wp2
 gi_loopw [3] (fun i wr=>∃k:Nat,k≤l.length∧i=.int .i64 ((l.length:Int)-1-(k:Int))∧J (upto (bk l) k) wr∧Below n₀ W wr) (fun i _=>(intOf i+1).toNat)
 (case atStart=>exact⟨0,Nat.zero_le _,by simp,h0,Below.refl _ _⟩);case round=>
  obtain⟨k,hk,rfl,hJs,hnx⟩:=hrel;by_cases hlt:k<l.length
  ·obtain⟨j,hj⟩:∃j,j=l.length-1-k:=⟨_,rfl⟩;have e1:(l.length:Int)-1-(k:Int)=(j:Int):=(by omega);have hj0:(0:Int)≤(j:Int):=(by omega);have hjl:(j:Int)<(l.length:Int):=(by omega);have hjl2:j<l.length:=(by omega);obtain⟨fn,tmps,assign,body,hy,hR⟩:=hY _ (bk l k) wr hJs (by rw[upto_length];exact hlt);have hbk:bk l k=(j,l[j]?.getD ⟨#[]⟩):=(by unfold bk;rw[←hj]);have HKJ:Hid ((j:Int)-1=(l.length:Int)-1-((k+1:Nat):Int)):=Lh (by omega);rw[hbk] at hy hR;have HBK:=Lh hbk;dsimp only at hy;have hcx':wr.cell? ⟨b,off+j,none⟩=some (.string (l[j]?.getD ⟨#[]⟩)):=(hnx.cell (p:=⟨b,off+j,none⟩) hb).trans (hc j hjl2);have hbs':wr.cell? ⟨Bs,0,none⟩=some (.slice (some ⟨b,off,none⟩) l.length cap):=(hnx.cell (p:=⟨Bs,0,none⟩) hBs0).trans hBs;generalize l[j]?.getD ⟨#[]⟩=x at*;rw[e1];clear hj hbk e1;gi_wp2;refine hR.mono ?_;rintro e W3 (⟨rfl,hJ3,hk3⟩|⟨rfl,hJx3⟩)
   ·gi_wp2;go_roundw;(case rel=>exact⟨k+1,by omega,by rw[HKJ.out],by rw[QeE,HBK.out];exact hJ3,hnx.trans hk3⟩);case measure=>simp[intOf]
   ·gi_wp2;refine bodyPost_ret (results_none rfl _ _ _) rfl ?_;exact⟨⟨_,rfl⟩,.inr ⟨_,⟨k+1,by omega,by rw[QeE,HBK.out]⟩,hJx3⟩⟩
  ·obtain rfl:k=l.length:=by omega
   have e1:(l.length:Int)-1-(l.length:Int)= -1:=(by omega);rw[e1];gi_wp2;go_end0;exact⟨⟨_,rfl⟩,.inl ⟨_,rfl,hJs⟩⟩
set_option maxRecDepth 100000 in
theorem back1_nil_in (F:Fence)(n:Nat)(h8:F.fn 182)(hro:F.round=none)(lp Bs cap:Nat)(A:Option Addr)(J:List (Nat × ByteArray)→World→Prop)(W:World)(hBs:W.cell? ⟨Bs,0,none⟩=some (.slice A 0 cap))(h0:J [] W):
 CallsIn F n Tryz.prog 182 #[.func (.yield lp) #[] #[],.pointer (some ⟨Bs,0,none⟩)] W fun e W'=>(∃v,e=.returned v)∧J [] W':=by
 refine callsIn_of_wp Tryz.func182 rfl h8 ?_ hro;simp only[Tryz.ntmps182,List.size_toArray,qC,List.length_nil,Nat.reduceAdd,Nat.reduceSub,Array.replicate_succ,Array.replicate_zero,List.push_toArray,List.append_toArray,List.nil_append,List.cons_append];gi_wp2;gi_loopw [3] (fun i wr=>i=.int .i64 (-1)∧J [] wr) (fun _ _=>0);(case atStart=>exact⟨rfl,h0⟩);case round=>
  obtain⟨rfl,hJs⟩:=hrel;gi_wp2;go_end0;exact⟨⟨_,rfl⟩,hJs⟩
theorem back_in (F:Fence)(n:Nat)(h6:F.fn 144)(hro:F.round=none)(a:Option Addr)(len cap:Nat)(w:World):
 CallsIn F n Tryz.prog 144 #[.slice a len cap] w fun e w'=>e=.returned (.func (.func 182) #[] #[.pointer (some ⟨w.heap.size,0,none⟩)])∧w'=w.alloc (.cells #[.slice a len cap] 44):=by
 refine callsIn_of_wp Tryz.func144 rfl h6 ?_ hro;simp only[Tryz.ntmps144,List.size_toArray,qC,List.length_nil,Nat.reduceAdd,Nat.reduceSub,Array.replicate_succ,Array.replicate_zero,List.push_toArray,List.append_toArray,List.nil_append,List.cons_append];gi_wp2;go_ret;exact⟨rfl,rfl⟩
theorem back_stops (F:Fence)(n:Nat)(h8:F.fn 182)(hro:F.round=none)(hn:1≤n)(Bs n₀:Nat)(A:Option Addr)(cap:Nat)(l:List ByteArray)(hreach:l.length≤4611686018427387904)(w:World)(hBs:Bs<n₀)(hn₀:n₀≤w.heap.size) (hc:w.cell? ⟨Bs,0,none⟩=some (.slice A l.length cap)) (hI:Sl w (fun g=>g<n₀) A cap l):
 SeqStopsK F n Tryz.prog 182 #[.pointer (some ⟨Bs,0,none⟩)] (fun x:Nat × ByteArray=>#[Value.int .i64 (x.1:Int),Value.string x.2]) (Below n₀) (fun ys=>ys=upto (bk l) l.length) (fun pre=>∃k,k≤l.length∧pre=upto (bk l) k) l.length w:=fun lp J Jx W hW _ _ hY h0=>by
 have hc':=(hW.cell (p:=⟨Bs,0,none⟩) (by show Bs<w.heap.size;omega)).trans hc;by_cases hl:l.length=0
 ·have hl2:l=[]:=List.eq_nil_of_length_eq_zero hl;subst hl2;exact(back1_nil_in F n h8 hro lp Bs cap A J W hc' h0).mono fun e W' ⟨he,hj⟩=>⟨he,.inl ⟨_,rfl,hj⟩⟩
 ·obtain⟨b,o,rfl,hb,hlt,_⟩:=hI.2.2 (by omega);refine back1_in F n h8 hro hn lp Bs n₀ b o cap l hreach hb J Jx hY hBs W hc' (fun j hj=>?_) h0;obtain⟨b2,o2,e,hb2,hlt2,hx⟩:=str_atZ hI hj;cases e;refine(hW.cell (p:=⟨b,o+j,none⟩) hlt2).trans (hx.trans ?_);rw[qG hj];rfl
def Qb4 (l:List ByteArray)(x:ByteArray):Nat→Int
 |0=> -1
 |k+1=>if l[k]?.getD ⟨#[]⟩=x then(k:Int) else Qb4 l x k
def lastIx (l:List ByteArray)(x:ByteArray):Int:=Qb4 l x l.length
theorem QcU {l:List ByteArray}{x:ByteArray}:∀k,(∀j,j<k→l[j]?.getD ⟨#[]⟩≠x)→Qb4 l x k= -1
 |0,_=>rfl
 |k+1,h=>by rw[Qb4,if_neg (h k (by omega)),QcU k fun j hj=>h j (by omega)]
theorem Qca {l:List ByteArray}{x:ByteArray}{j:Nat}:∀k,j<k→l[j]?.getD ⟨#[]⟩=x→(∀i,j<i→i<k→l[i]?.getD ⟨#[]⟩≠x)→Qb4 l x k=(j:Int)
 |0,h,_,_=>by omega
 |k+1,h,hx,hn=>by
  rw[Qb4];by_cases e:j=k
  ·subst e;rw[if_pos hx]
  ·rw[if_neg (hn k (by omega) (by omega)),Qca k (by omega) hx fun i h1 h2=>hn i h1 (by omega)]
theorem tl_loopZ (s:ByteArray):∀n i r,s.size-i=n→ByteArray.toList.loop s i r=r.reverse++s.data.toList.drop i:=by
 intro n;induction n with
 |zero=>intro i r h;rw[ByteArray.toList.loop,if_neg (by omega),List.drop_of_length_le (by simp;omega)];simp
 |succ n ih=>
  intro i r h;have hi:i<s.size:=(by omega);rw[ByteArray.toList.loop,if_pos hi,ih (i+1) _ (by omega)];have hd:s.data.toList.drop i=s.get! i::s.data.toList.drop (i+1):=by
   rw[List.drop_eq_getElem_cons (by simpa using hi)];congr 1;simp[ByteArray.get!,hi]
  rw[hd];simp
theorem tl_dataZ (s:ByteArray):s.toList=s.data.toList:=by
 unfold ByteArray.toList;rw[tl_loopZ s s.size 0 [] (by omega)];simp
theorem tl_neZ {a b:ByteArray}(h:a≠b):(a.toList==b.toList)=false:=by
 rw[beq_eq_false_iff_ne,tl_dataZ,tl_dataZ];intro e;apply h;apply ByteArray.ext;exact Array.toList_inj.1 e
theorem tl_eqZ {a b:ByteArray}(h:a=b):(a.toList==b.toList)=true:=by rw[h];simp
theorem tl_iff {a b:ByteArray}(h:(a.toList==b.toList)=true):a=b:=by
 by_cases e:a=b
 ·exact e
 ·rw[tl_neZ e] at h;cases h
theorem tl_nif {a b:ByteArray}(h:(a.toList==b.toList)=false):a≠b:=by
 intro e;rw[tl_eqZ e] at h;cases h
set_option maxRecDepth 100000 in
theorem last_in (F:Fence)(n:Nat)(h4:F.fn 100)(h6:F.fn 144)(h8:F.fn 182)(hro:F.round=none)(hn:3≤n)(AL A:Option Addr)(nLL cL cap:Nat)(l:List ByteArray)(x:ByteArray)(w:World) (hs:Sl w (fun b=>b<w.heap.size) A cap l) (hreach:l.length≤4611686018427387904):
 CallsIn F n Tryz.prog 100 #[.agg #[.slice AL nLL cL,.slice A l.length cap],.string x] w fun e W'=>e=.returned (.int .i64 (lastIx l x))∧Below w.heap.size w W':=by
 have h1:1≤n:=by omega
 refine callsIn_of_wp_marks Tryz.func100 rfl h4 ?_ hro;simp only[Tryz.ntmps100,List.size_toArray,qC,List.length_nil,Nat.reduceAdd,Nat.reduceSub,Array.replicate_succ,Array.replicate_zero,List.push_toArray,List.append_toArray,List.nil_append,List.cons_append];gi_wp2_with (gi_at_call 144;refine(back_in F (n-1) h6 hro _ _ _ _).mono ?_;rintro e w' ⟨rfl,rfl⟩);have hB0:Below w.heap.size w ((((w.alloc (.cells #[.slice AL nLL cL,.slice A l.length cap] 92)).alloc (.cells #[.string x] 9)).alloc (.cells #[.int .i64 0] 3)).alloc (.cells #[.slice A l.length cap] 44)):=((((Below.refl _ w).alloc nL _).alloc (by simp) _).alloc (by first|(simp;done)|(simp;omega)) _).alloc (by first|(simp;done)|(simp;omega)) _;have hsz0:((((w.alloc (.cells #[.slice AL nLL cL,.slice A l.length cap] 92)).alloc (.cells #[.string x] 9)).alloc (.cells #[.int .i64 0] 3)).alloc (.cells #[.slice A l.length cap] 44)).heap.size=w.heap.size+4:=by simp
 have b1:ABoxZ ((((w.alloc (.cells #[.slice AL nLL cL,.slice A l.length cap] 92)).alloc (.cells #[.string x] 9)).alloc (.cells #[.int .i64 0] 3)).alloc (.cells #[.slice A l.length cap] 44)) (w.heap.size+1) 9 [.string x]:=(Below.heap_alloc _ _ _ (by first|(simp;done)|(simp;omega))).trans ((Below.heap_alloc _ _ _ (by first|(simp;done)|(simp;omega))).trans (Qai (by simp)));have b2:ABoxZ ((((w.alloc (.cells #[.slice AL nLL cL,.slice A l.length cap] 92)).alloc (.cells #[.string x] 9)).alloc (.cells #[.int .i64 0] 3)).alloc (.cells #[.slice A l.length cap] 44)) (w.heap.size+1+1) 3 [.int .i64 0]:=(Below.heap_alloc _ _ _ (by first|(simp;done)|(simp;omega))).trans (Qai (by simp));have b3:ABoxZ ((((w.alloc (.cells #[.slice AL nLL cL,.slice A l.length cap] 92)).alloc (.cells #[.string x] 9)).alloc (.cells #[.int .i64 0] 3)).alloc (.cells #[.slice A l.length cap] 44)) (w.heap.size+1+1+1) 44 [.slice A l.length cap]:=Qai (by simp);have hs0:=hs.to hB0;generalize ((((w.alloc (.cells #[.slice AL nLL cL,.slice A l.length cap] 92)).alloc (.cells #[.string x] 9)).alloc (.cells #[.int .i64 0] 3)).alloc (.cells #[.slice A l.length cap] 44))=W0 at*
 refine wpIn_rangeFunc_ownG hro h1 (gf:=182) (lb:=#[.pointer (some ⟨w.heap.size+1+1+1,0,none⟩)]) rfl h8 (enters_of Tryz.func182 (by kernel_rfl) rfl) (back_stops F (n-1) h8 hro (by omega) (w.heap.size+1+1+1) (w.heap.size+4) A cap l hreach W0 (by omega) (by omega) (b3.cell 0 rfl) (hs0.mono (fun i hi _=>by omega))) belowK_t (belowK_b (by omega)) bR (fun _=>rfl) (fun pre W=>((∀p∈pre,p.2≠x)∧W.cell? ⟨w.heap.size+1,0,none⟩=some (.string x)∧W.cell? ⟨w.heap.size+1+1,0,none⟩=some (.int .i64 0)∧W.frozen? ⟨w.heap.size+1+1,0,none⟩=false)∧Below w.heap.size w W) (fun c pre W=>(c=.ret∧∃ini last,pre=ini++[last]∧(∀p∈ini,p.2≠x)∧last.2=x∧W.cell? ⟨w.heap.size+1+1,0,none⟩=some (.int .i64 (last.1:Int)))∧Below w.heap.size w W) (OwnFrom.and (Own.from (fun s A B row hs hg hr=>⟨hs.1,cell_kept hs.2.1 hg hr,cell_kept hs.2.2.1 hg hr,(frozen_kept hs.2.2.1 hg hr).trans hs.2.2.2⟩) _) (ownFrom_below nL (by omega))) (fun c=>OwnFrom.and (Own.from (fun s A B row hs hg hr=>by obtain⟨hc,ini,last,e1,e2,e3,e4⟩:=hs;exact⟨hc,ini,last,e1,e2,e3,cell_kept e4 hg hr⟩) _) (ownFrom_below nL (by omega))) ⟨⟨by simp,b1.cell 0 rfl,b2.cell 0 rfl,b2.fz 0⟩,hB0⟩ (fun y=>{tmps:=#[.agg #[.slice AL nLL cL,.slice A l.length cap],.string x,.pointer (some ⟨w.heap.size,0,none⟩),.pointer (some ⟨w.heap.size+1,0,none⟩),.pointer (some ⟨w.heap.size+1+1,0,none⟩),.int .i64 (y.1:Int),.string y.2,.pointer (some ⟨w.heap.size,1,none⟩),.slice A l.length cap,.func (.func 182) #[] #[.pointer (some ⟨w.heap.size+1+1+1,0,none⟩)],.int .i64 (y.1:Int),.string y.2,undef,undef,undef,undef],defers:=[]}) ?assign ?body ?done ?stop
 case assign=>
  intro lp y W K hK;gi_wp2;exact hK
 case body=>
  rintro lp pre y W ⟨⟨hp,hcx,hcr,hfr⟩,hB⟩ _;gi_wp2
  ·have hx:y.2=x:=tl_iff (by assumption);exact⟨(KeepsOthers.setCell _ _ _).from _,⟨rfl,pre,y,rfl,hp,hx,World.cell?_setCell_same' _ _ _ (by rw[hcr];rfl)⟩,hB.setCell (p:=⟨w.heap.size+1+1,0,none⟩) (by show w.heap.size≤w.heap.size+1+1;omega) _⟩
  ·have hx:y.2≠x:=tl_nif (by assumption);exact⟨KeepsFrom.refl _ _,Below.refl _ _,⟨fun p hp'=>(List.mem_append.1 hp').elim (hp p) (fun e=>by simp at e;subst e;exact hx),hcx,hcr,hfr⟩,hB⟩
 case done=>
  rintro D ys W hD rfl ⟨⟨hne,_,hcr,hfr⟩,hB⟩ hK;gi_wp2;have hK':=(KeepsOthers.setCell W ⟨w.heap.size+1+1,0,none⟩ (.int .i64 (-1))).same D _ hK rfl;refine⟨by simp,.inl ⟨_,_,rfl,run_takeDeferred hK',?_⟩⟩;have hc5:=cell_kept (World.cell?_setCell_same' W ⟨w.heap.size+1+1,0,none⟩ (.int .i64 (-1)) (by rw[hcr];rfl)) (grownBy_putObj' _ D (.deferred none)) (fun r e=>by cases e;exact⟨_,hK',rfl⟩);refine⟨.int .i64 (-1),?_,?_,(hB.setCell (p:=⟨w.heap.size+1+1,0,none⟩) (by show w.heap.size≤w.heap.size+1+1;omega) _).trans (belowK_b (w:=w) nL _ D _ _ (by omega) hK' rfl rfl)⟩
  ·simp[results,Tryz.f100,go_sem,hc5]
  ·rw[lastIx,QcU];intro j hj;refine hne (j,l[j]?.getD ⟨#[]⟩) ?_;simp only[upto,List.mem_map,List.mem_range];exact⟨l.length-1-j,by omega,by unfold bk;rw[show l.length-1-(l.length-1-j)=j by omega]⟩
 case stop=>
  rintro D c pre W hD ⟨k,hk,rfl⟩ ⟨⟨rfl,ini,last,e1,e2,e3,hcr⟩,hB⟩ hK;gi_wp2;refine⟨by simp,.inl ⟨_,_,rfl,run_takeDeferred hK,?_⟩⟩;have hc5:=cell_kept hcr (grownBy_putObj' _ D (.deferred none)) (fun r e=>by cases e;exact⟨_,hK,rfl⟩);obtain⟨k',rfl⟩:∃k',k=k'+1:=by
   cases k with
   |zero=>simp[upto] at e1
   |succ k'=>exact⟨k',rfl⟩
  rw[QeE] at e1;obtain⟨rfl,e5⟩:=List.append_inj' e1 rfl;obtain rfl:bk l k'=last:=by simpa using e5
  refine⟨.int .i64 ((bk l k').1:Int),?_,?_,hB.trans (belowK_b (w:=w) nL W D _ _ (by omega) hK rfl rfl)⟩
  ·simp[results,Tryz.f100,go_sem,hc5]
  ·rw[lastIx,Qca (j:=l.length-1-k') l.length (by omega) e3 (fun i h1 h2=>?_)]
   ·rfl
   ·refine e2 (i,l[i]?.getD ⟨#[]⟩) ?_;simp only[upto,List.mem_map,List.mem_range];exact⟨l.length-1-i,by omega,by unfold bk;rw[show l.length-1-(l.length-1-i)=i by omega]⟩
theorem last_anyZ (AL A:Option Addr)(nLL cL cap n:Nat)(l:List ByteArray)(x:ByteArray)(w:World)(hs:Sl w (fun b=>b<w.heap.size) A cap l)(hn:l.length=n)(hreach:l.length≤4611686018427387904):
 Calls Tryz.prog 100 #[.agg #[.slice AL nLL cL,.slice A n cap],.string x] w fun e W'=>e=.returned (.int .i64 (lastIx l x))∧Below w.heap.size w W':=by
 subst hn;exact(callsIn_wide (n:=3)).1 (last_in .wide 3 trivial trivial trivial rfl nL AL A nLL cL cap l x w hs hreach)
end Go.Proofs.YtegaapiocihcpaaGreatDoor
namespace Go.Proofs.YtegaapiocihcpaaGreatDoor
open Go.RowKit
structure H32 where
 l:List UInt8
instance:Rep H32 where
 size:=32
 R _ _ cs h:=cs=h.l.map Qab∧h.l.length=32
 len h:=by rw[h.1,qM,h.2]
 one h:=by
  rw[h.1];intro u hu;obtain⟨b,_,rfl⟩:=List.mem_map.1 hu;rfl
 keep h _:=h
 mono h _:=h
theorem Qe0:(Tryz.prog.info? 101).map (fun i=>(i.zero,i.size,i.bytes))=some (some (.agg (Qaf.map Qab).toArray),Rep.size H32,32):=by kernel_rfl
theorem s_info:(Tryz.prog.info? 9).map (fun i=>(i.zero,i.size,i.bytes))=some (some (.string ⟨#[]⟩),Rep.size ByteArray,16):=by kernel_rfl
theorem hclone_any (A:Option Addr)(c n:Nat)(l:List H32)(w:World)(hl:Sl w (fun b=>b<w.heap.size) A c l)(hn:l.length=n)(hsz:n≤1073741824):
 Calls Tryz.prog 96 #[.slice A n c] w fun e w'=>∃v,e=.returned v∧Own w' w.heap.size 101 v l∧Below w.heap.size w w':=by
 have hq:=fun w'=>Lib.run_eql_slice_nil (P:=Tryz.prog) w' 90 101 A n c 0 0 Tryz.underlying90
 cases A with
 |none=>
  have hl0:l=[]:=by
   by_cases h0:0<l.length
   ·obtain⟨b,o,e,_⟩:=hl.2.2 h0;cases e
   ·exact List.eq_nil_of_length_eq_zero (by omega)
  subst hl0;simp only[Option.isNone_none] at hq;go_enter Tryz.func96,Tryz.ntmps96;go_wp2_with fail;go_ret;exact⟨_,rfl,Own.nil _ _ _,Below.refl _ _⟩
 |some a=>
  simp only[Option.isNone_some] at hq;go_enter Tryz.func96,Tryz.ntmps96;go_wp2_with (at_builtin;refine QaC (α:=H32) _ rfl (.tmp 5) (.tmp 6) 90 rfl w.heap.size 101 (.agg (Qaf.map Qab).toArray) 32 Tryz.underlying90 Qe0 rfl (by decide) (.slice (some ⟨w.heap.size,0,none⟩) 0 0) [] rfl (Own.made w _ _ nL) (some a) c n l rfl hn (fun b=>b<w.heap.size) (hl.keep (Kept.all (bR.alloc nL _)) (by simp)) (by intro i (hi:i<w.heap.size) _ e;simp[Value.ownBlock] at e;omega) (by simp;omega) (by simp;omega) (by simp) ?_;intro v2 w2 hown2 hg2 _);go_ret;exact⟨_,rfl,hown2,QaL (bR.alloc nL _) (Own.made (α:=H32) w _ _ nL) (by simp) hg2⟩
theorem Qdo (A:Option Addr)(c n:Nat)(l:List ByteArray)(w:World)(hl:Sl w (fun b=>b<w.heap.size) A c l)(hn:l.length=n)(hsz:n≤1073741824):
 Calls Tryz.prog 97 #[.slice A n c] w fun e w'=>∃v,e=.returned v∧Own w' w.heap.size 9 v l∧Below w.heap.size w w':=by
 have hq:=fun w'=>Lib.run_eql_slice_nil (P:=Tryz.prog) w' 44 9 A n c 0 0 Tryz.underlying44
 cases A with
 |none=>
  have hl0:l=[]:=by
   by_cases h0:0<l.length
   ·obtain⟨b,o,e,_⟩:=hl.2.2 h0;cases e
   ·exact List.eq_nil_of_length_eq_zero (by omega)
  subst hl0;simp only[Option.isNone_none] at hq;go_enter Tryz.func97,Tryz.ntmps97;go_wp2_with fail;go_ret;exact⟨_,rfl,Own.nil _ _ _,Below.refl _ _⟩
 |some a=>
  simp only[Option.isNone_some] at hq;go_enter Tryz.func97,Tryz.ntmps97;go_wp2_with (at_builtin;refine QaC (α:=ByteArray) _ rfl (.tmp 5) (.tmp 6) 44 rfl w.heap.size 9 (.string ⟨#[]⟩) 16 Tryz.underlying44 s_info rfl (by decide) (.slice (some ⟨w.heap.size,0,none⟩) 0 0) [] rfl (Own.made w _ _ nL) (some a) c n l rfl hn (fun b=>b<w.heap.size) (hl.keep (Kept.all (bR.alloc nL _)) (by simp)) (by intro i (hi:i<w.heap.size) _ e;simp[Value.ownBlock] at e;omega) (by simp;omega) (by simp;omega) (by simp) ?_;intro v2 w2 hown2 hg2 _);go_ret;exact⟨_,rfl,hown2,QaL (bR.alloc nL _) (Own.made (α:=ByteArray) w _ _ nL) (by simp) hg2⟩
theorem cells_b:Tryz.prog.cellsOf 5=1:=by kernel_rfl
theorem info_b:∃i,Tryz.prog.info? 5=some i:=info_of_underlying Tryz.underlying5
theorem run_part_b (a:List UInt8)(i:Nat)(hi:i<a.length)(w:World):(Go.part 5 (a.map Qab).toArray (i*1)).run Tryz.prog w=.ok (Qab (a.getD i 0)) w:=by
 have hu2:=Tryz.underlying5;have he:(a.map Qab).toArray[i]? =some (Qab (a.getD i 0)):=by
  simp[List.getD_eq_getElem?_getD,hi]
 simp[Go.part,isAgg,run_underlying hu2,go_sem,he]
theorem run_items (d:Nat)(a b:List UInt8)(w:World):∀(is:List Nat),(∀i∈is,i<a.length∧i<b.length)→(Op.eqItems (d+1) 5 1 (a.map Qab).toArray (b.map Qab).toArray is).run Tryz.prog w=.ok (is.all fun i=>a.getD i 0==b.getD i 0) w
 |[],_=>by simp[Op.eqItems]
 |i::is,h=>by
  have h1:=h i (by simp);have e1:=run_part_b a i h1.1 w;have e2:=run_part_b b i h1.2 w;have e3:(Op.equalIn (d+1) 5 (Qab (a.getD i 0)) (Qab (b.getD i 0))).run Tryz.prog w=.ok (a.getD i 0==b.getD i 0) w:=by
   unfold Qab;rw[run_equalIn_int w d 5 .u8 .u8 _ _ Tryz.underlying5];have e4:(((a.getD i 0).toNat:Int)==((b.getD i 0).toNat:Int))=(a.getD i 0==b.getD i 0):=by
    generalize a.getD i 0=x;generalize b.getD i 0=y;rw[Bool.eq_iff_iff,beq_iff_eq,beq_iff_eq];constructor
    ·intro h;exact UInt8.toNat_inj.1 (Int.ofNat.inj h)
    ·intro h;rw[h]
   rw[e4]
  simp only[Op.eqItems,Sem.run_bind,e1,e2,e3,Result.andThen_ok];rw[List.all_cons];cases hb:(a.getD i 0==b.getD i 0)
  ·simp
  ·simp only[Bool.not_true,Bool.false_eq_true,if_false,Bool.true_and];exact run_items d a b w is (fun j hj=>h j (by simp[hj]))
theorem all_eq {a b:List UInt8}(ha:a.length=32)(hb:b.length=32):((List.range 32).all fun i=>a.getD i 0==b.getD i 0)=decide (a=b):=by
 rw[Bool.eq_iff_iff,List.all_eq_true,decide_eq_true_iff];constructor
 ·intro h;apply List.ext_getElem (by omega);intro i h1 h2;have:=h i (by simp;omega);rw[beq_iff_eq,List.getD_eq_getElem?_getD,List.getD_eq_getElem?_getD,qG h1,qG h2] at this;exact this
 ·rintro rfl i _;simp
theorem QeO (d:Nat)(a b:List UInt8)(ha:a.length=32)(hb:b.length=32)(w:World):(Op.equalIn (d+2) 101 (.agg (a.map Qab).toArray) (.agg (b.map Qab).toArray)).run Tryz.prog w=.ok (decide (a=b)) w:=by
 obtain⟨i,hi⟩:=info_b;rw[run_equalIn_array w (d+1) _ _ Tryz.underlying101 hi,cells_b,run_items d a b w _ (fun j hj=>by rw[List.mem_range] at hj;omega),all_eq ha hb]
theorem guard_h:Tryz.prog.eqGuardType Tryz.prog.depth 101=false:=by kernel_rfl
theorem QdP (a b:List UInt8)(ha:a.length=32)(hb:b.length=32)(w:World):(binOp .neq 101 (.agg (a.map Qab).toArray) (.agg (b.map Qab).toArray)).run Tryz.prog w=.ok (.bool (!decide (a=b))) w:=by
 rw[run_neq_struct,QeO 9998 a b ha hb];rfl
theorem QdL (a b:List UInt8)(ha:a.length=32)(hb:b.length=32)(w:World):(binOp .eql 101 (.agg (a.map Qab).toArray) (.agg (b.map Qab).toArray)).run Tryz.prog w=.ok (.bool (decide (a=b))) w:=by
 rw[run_eql_struct,QeO 9998 a b ha hb];rfl
theorem foldl_set:∀(l:List Value) (k:Nat) (z:List Value),k+l.length=z.length→(l.zipIdx k).foldl (fun(c:Array Value) x=>c.setIfInBounds (0+x.2) x.1) z.toArray=(z.take k++l).toArray
 |[],k,z,h=>by
  simp only[List.zipIdx_nil,List.foldl_nil,List.append_nil];rw[List.take_of_length_le (by simp at h;omega)]
 |x::l,k,z,h=>by
  rw[List.zipIdx_cons,List.foldl_cons];have e:z.toArray.setIfInBounds (0+k) x=(z.set k x).toArray:=(by simp);simp only[e];rw[foldl_set l (k+1) (z.set k x) (by simp at h ⊢;omega)];congr 1;have hk:k<(z.set k x).length:=(by simp at h ⊢;omega);rw[qT hk,List.getElem_set_self,List.take_set_of_le (Nat.le_refl k),List.append_assoc];rfl
theorem fill_one (n:Nat)(z cs:Array Value)(hz:z.size=n)(hs:cs.size=n):Instr.fill (fun i=>some (i*n,n)) z [(0,.agg cs)]=some cs:=by
 have hc:(Value.agg cs).cells=cs:=rfl;rw[Instr.fill];simp only[hc,hs,hz,ne_eq,not_true_eq_false,decide_false,Nat.zero_mul,Nat.zero_add,gt_iff_lt,Nat.lt_irrefl,Bool.or_self,Bool.false_eq_true,if_false];rw[Instr.fill];have h:=foldl_set cs.toList 0 z.toList (by simp;omega);simp only[List.take_zero,List.nil_append,Array.toArray_toList,Nat.zero_add] at h;refine congrArg some (Eq.trans ?_ h);rw[←Array.foldl_toList,Array.toList_zipIdx]
theorem run_build1 (cs:Array Value)(hs:cs.size=32)(w:World):(Instr.buildSlice 90 1 #[(0,.agg cs)]).run Tryz.prog w=.ok (.slice (some ⟨w.heap.size,0,none⟩) 1 1) (w.alloc (.cells cs 101)):=by
 have hu:=Tryz.underlying90;obtain⟨i,hi,hz0,hz1,hz2⟩:=info_parts Qe0;have hz1':i.size=32:=hz1;have hf:∀z:Array Value,z.size=32→Instr.fill (fun i=>some (i*32,32)) z [(0,.agg cs)]=some cs:=fun z hz=>fill_one 32 z cs hz hs
 have hsz:∀w,(sizeOf 101).run Tryz.prog w=.ok 32 w:=fun w=>by rw[run_sizeOf w hi,show Tryz.prog.cellsOf 101=32 by kernel_rfl]
 have hzv:∀w,(zeroValue 101).run Tryz.prog w=.ok (.agg (Qaf.map Qab).toArray) w:=fun w=>by simp[zeroValue,typeInfo,hi,hz0,go_sem]
 have hzc:(Value.agg (Qaf.map Qab).toArray).cells=(Qaf.map Qab).toArray:=rfl;have hr:((Array.range (1*32)).map (fun x=>(Qaf.map Qab).toArray[x%(Qaf.map Qab).toArray.size]!)).size=32:=by simp
 have hff:=hf _ hr;have hle:¬(1*32>2^24):=by decide
 have hne:¬(1*32=0):=by decide
 simp only[Instr.buildSlice,Sem.run_bind,run_underlying hu,hsz,Result.andThen_ok,if_neg hle,if_neg hne,hzv,hzc,hff,Sem.run_pure,newRow];rw[run_newObj_alloc];rfl
theorem Qex {o:Oper}{a:Act}{K:Act→World→Prop}{Q:Exit→Act→World→Prop}{w:World}(x:Operand)(ho:o.op=.buildSlice 90 1 #[(0,x)])(cs:Array Value)(hx:a.eval x=.agg cs)(hs:cs.size=32) (h:K (a.put o.dst (.slice (some ⟨w.heap.size,0,none⟩) 1 1)) (w.alloc (.cells cs 101))):o.wp Tryz.prog a w K Q:=by
 unfold Oper.wp execOp;have hm:(#[(0,x)]:Array (Nat × Operand)).map (fun p=>(p.1,a.eval p.2))=#[(0,.agg cs)]:=by simp[hx]
 simp only[ho,hm,Sem.run_bind,run_build1 cs hs w,Result.andThen_ok,Sem.run_pure];exact h
theorem QaV {P:Program}{w:World}{o:Oper}{a:Act}(ty:TypeId)(x:Operand)(ho:o.op=.load ty x)(b off:Nat)(hx:a.eval x=.pointer (some ⟨b,off,none⟩))(cs:List Value)(d:TypeDesc)(hc:w.rangeAt b off cs) (hu:P.underlying ty=some d) (hd:d.isRow=true) (hi:(P.info? ty).map (·.size)=some cs.length):(execOp a.eval o).run P w=.ok (.value (.agg cs.toArray)) w:=by
 unfold execOp;simp only[ho,hx,Instr.loadAt,Instr.sureAddr,Sem.run_bind,Sem.run_pure,Result.andThen_ok,run_loadVar_mid w b off ty cs d hc hu hd hi]
theorem Qa0 {P:Program}{w:World}{o:Oper}{a:Act}(ty:TypeId)(x:Operand)(ho:o.op=.load ty x)(g:Nat)(hx:a.eval x=.pointer (some ⟨g,0,none⟩))(t:TypeId)(cs:Array Value)(fr:Nat × Nat)(d:TypeDesc)(hg:w.heap[g]? =some (.cells cs t fr)) (hu:P.underlying ty=some d) (hd:(match d with|.struct _|.array _ _=>true|_=>false)=true) (hi:(P.info? ty).map (·.size)=some cs.size):(execOp a.eval o).run P w=.ok (.value (.agg cs)) w:=by
 unfold execOp;simp only[ho,hx,Instr.loadAt,Instr.sureAddr,Sem.run_bind,Sem.run_pure,Result.andThen_ok,run_loadVar_row w g t ty cs fr d hg hu hd hi]
theorem exec_neq {P:Program}{w:World}{o:Oper}{a:Act}(ty ty2:TypeId)(x y:Operand)(ho:o.op=.binOp .neq ty x y ty2)(xs ys:Array Value)(hx:a.eval x=.agg xs)(hy:a.eval y=.agg ys)(hm:P.eqGuardType P.depth ty=false)(c:Bool)(h:(binOp .neq ty (.agg xs) (.agg ys)).run P w=.ok (.bool c) w):(execOp a.eval o).run P w=.ok (.value (.bool c)) w:=by
 unfold execOp;simp only[ho,hx,hy,Sem.run_bind,run_eqGuard_agg w .neq ty x y xs ys hm,h,Result.andThen_ok,Sem.run_pure]
theorem QdJ (l:List ByteArray)(x:ByteArray):∀k,Qb4 l x k= -1∨∃j,j<k∧Qb4 l x k=(j:Int)
 |0=>.inl rfl
 |k+1=>by
  rw[Qb4];split
  ·exact .inr ⟨k,by omega,rfl⟩
  ·rcases QdJ l x k with h|⟨j,hj,h⟩
   ·exact .inl h
   ·exact .inr ⟨j,by omega,h⟩
theorem QdO (l:List ByteArray)(x:ByteArray):lastIx l x= -1∨∃j,j<l.length∧lastIx l x=(j:Int):=QdJ l x l.length
theorem h32_at {w:World}{S:Nat→Prop}{A:Option Addr}{c:Nat}{l:List H32}(h:Sl w S A c l){k:Nat}(hk:k<l.length):
 ∃b o,A=some ⟨b,o,none⟩∧S b∧b<w.heap.size∧w.rangeAt b (o+k*32) (l[k].l.map Qab)∧l[k].l.length=32:=by
 obtain⟨b,o,es,rfl,hb,hlt,⟨he,hl⟩,hc⟩:=h.at_ hk;subst he;exact⟨b,o,rfl,hb,hlt,fun j v hv=>hc j v hv,hl⟩
structure LG (w:World)(O base:Nat)(v1 v2:Value)(L:List H32)(N:List ByteArray):Prop where
 o:ABoxZ w O 92 [v1,v2]
 l:Own w base 101 v1 L
 n:Own w base 9 v2 N
 ob:base≤O
 o1:some O≠v1.ownBlock
 o2:some O≠v2.ownBlock
 dj:∀g,v1.ownBlock=some g→v2.ownBlock≠some g
 bs:base≤w.heap.size
theorem LG.to {w w':World}{O base:Nat}{v1 v2:Value}{L:List H32}{N:List ByteArray}(h:LG w O base v1 v2 L N)(hb:Below w.heap.size w w'):LG w' O base v1 v2 L N:=
 ⟨h.o.to hb,h.l.below hb,h.n.below hb,h.ob,h.o1,h.o2,h.dj,Nat.le_trans h.bs hb.size⟩
theorem Sl.at_base {α:Type}[Rep α]{w w':World}{base:Nat}{A:Option Addr}{c:Nat}{l:List α}(h:Sl w (fun b=>b<base) A c l)(hb:Below base w w'):Sl w' (fun b=>b<w'.heap.size) A c l:=
 (h.keep (Kept.below hb (fun _ h=>h)) hb.size).mono (fun _ _ hlt=>hlt)
theorem Qc3 {w w':World}{base:Nat}{e:TypeId}{v:Value}{l:List H32}(h:Own w base e v l)(hk:∀g,v.ownBlock=some g→w'.heap[g]? =w.heap[g]?):Own w' base e v l:=by
 obtain⟨xs,hx,ho,hr⟩:=h;refine⟨xs,⟨hx.1,?_⟩,ho,fun i hi=>hr i hi⟩;rcases hx.2 with hn|⟨g,cap,cur,rfl,hb,hg,rest⟩
 ·exact .inl hn
 ·exact .inr ⟨g,cap,cur,rfl,hb,(hk g rfl).trans hg,rest⟩
theorem Qcv {w w':World}{base:Nat}{e:TypeId}{v:Value}{l:List ByteArray}(h:Own w base e v l)(hk:∀g,v.ownBlock=some g→w'.heap[g]? =w.heap[g]?):Own w' base e v l:=by
 obtain⟨xs,hx,ho,hr⟩:=h;refine⟨xs,⟨hx.1,?_⟩,ho,fun i hi=>hr i hi⟩;rcases hx.2 with hn|⟨g,cap,cur,rfl,hb,hg,rest⟩
 ·exact .inl hn
 ·exact .inr ⟨g,cap,cur,rfl,hb,(hk g rfl).trans hg,rest⟩
structure PL (wc w:World)(base:Nat)(v1 v2 u1 u2:Value)(L:List H32)(N:List ByteArray):Prop where
 os:w.os=wc.os
 tape:w.tape=wc.tape
 output:w.output=wc.output
 size:wc.heap.size≤w.heap.size
 block:∀i,i<wc.heap.size→some i≠v1.ownBlock→some i≠v2.ownBlock→w.heap[i]? =wc.heap[i]?
 l:Own w base 101 u1 L
 n:Own w base 9 u2 N
 r1:u1.ownBlock=v1.ownBlock∨∀g,u1.ownBlock=some g→wc.heap.size≤g
 r2:u2.ownBlock=v2.ownBlock∨∀g,u2.ownBlock=some g→wc.heap.size≤g
 dj:∀g,u1.ownBlock=some g→u2.ownBlock≠some g
 bs:base≤w.heap.size
structure LTZ (w:World)(B:Nat)(es:Array Value)(te:TypeId)(u1 u2:Value):Prop where
 b:w.heap[B]? =some (.cells es te (0,0))
 n1:some B≠u1.ownBlock
 n2:some B≠u2.ownBlock
section
variable {wc w w5:World} {base:Nat} {v1 v2 u1 u2:Value} {L:List H32} {N:List ByteArray}
theorem PL.start {O:Nat}(h:LG wc O base v1 v2 L N):PL wc wc.drew base v1 v2 v1 v2 L N:=
 ⟨rfl,rfl,rfl,Nat.le_refl _,fun _ _ _ _=>rfl,h.l.drew,h.n.drew,.inl rfl,.inl rfl,h.dj,h.bs⟩
theorem PL.alloc (h:PL wc w base v1 v2 u1 u2 L N)(o:Obj):PL wc (w.alloc o) base v1 v2 u1 u2 L N:=by
 have hz:=h.size;exact⟨h.os,h.tape,h.output,by simp;omega,fun i hi h1 h2=>(Below.heap_alloc w o i (by omega)).trans (h.block i hi h1 h2),h.l.alloc o,h.n.alloc o,h.r1,h.r2,h.dj,by have:=h.bs;simp;omega⟩
theorem PL.lit (h:PL wc w base v1 v2 u1 u2 L N)(es:Array Value)(te:TypeId):LTZ (w.alloc (.cells es te)) w.heap.size es te u1 u2:=
 ⟨heap_alloc_new w _,fun e=>by have:=(h.l.lt _ e.symm).2;omega,fun e=>by have:=(h.n.lt _ e.symm).2;omega⟩
theorem LTZ.alloc {B:Nat}{es:Array Value}{te:TypeId}(h:LTZ w B es te u1 u2)(o:Obj):LTZ (w.alloc o) B es te u1 u2:=
 ⟨(Below.heap_alloc w o B (Array.getElem?_eq_some_iff.1 h.b).1).trans h.b,h.n1,h.n2⟩
theorem PL.push1 {g cap m:Nat}{L':List H32}(h:PL wc w base v1 v2 u1 u2 L N)(hown:Own w5 base 101 (.slice (some ⟨g,0,none⟩) m cap) L')(hg:w.grownBy w5 u1.ownBlock)(hat:u1.ownBlock=some g∨g=w.heap.size):
 PL wc w5 base v1 v2 (.slice (some ⟨g,0,none⟩) m cap) u2 L' N:=by
 have hz:=h.size;refine⟨hg.os.trans h.os,hg.tape.trans h.tape,hg.output.trans h.output,Nat.le_trans hz hg.size,fun i hi h1 h2=>(hg.block i (by omega) (fun e=>?_)).trans (h.block i hi h1 h2),hown,Qcv h.n (fun k hk=>hg.block k (h.n.lt k hk).2 (fun e=>h.dj k e.symm hk)),?_,h.r2,fun k hk hk2=>?_,Nat.le_trans h.bs hg.size⟩
 ·rcases h.r1 with e2|e2
  ·rw[e2] at e;exact h1 e
  ·have:=e2 i e.symm;omega
 ·rcases hat with e|e
  ·rcases h.r1 with e2|e2
   ·exact .inl (by rw[←e2,e];rfl)
   ·exact .inr (fun k hk=>by have hk':some g=some k:=hk;cases hk';exact e2 g e)
  ·exact .inr (fun k hk=>by have hk':some g=some k:=hk;cases hk';omega)
 ·have hk':some g=some k:=hk;cases hk';rcases hat with e|e
  ·exact h.dj g e hk2
  ·have:=(h.n.lt g hk2).2;omega
theorem PL.push2 {g cap m:Nat}{N':List ByteArray}(h:PL wc w base v1 v2 u1 u2 L N)(hown:Own w5 base 9 (.slice (some ⟨g,0,none⟩) m cap) N')(hg:w.grownBy w5 u2.ownBlock)(hat:u2.ownBlock=some g∨g=w.heap.size):
 PL wc w5 base v1 v2 u1 (.slice (some ⟨g,0,none⟩) m cap) L N':=by
 have hz:=h.size;refine⟨hg.os.trans h.os,hg.tape.trans h.tape,hg.output.trans h.output,Nat.le_trans hz hg.size,fun i hi h1 h2=>(hg.block i (by omega) (fun e=>?_)).trans (h.block i hi h1 h2),Qc3 h.l (fun k hk=>hg.block k (h.l.lt k hk).2 (fun e=>h.dj k hk e.symm)),hown,h.r1,?_,fun k hk hk2=>?_,Nat.le_trans h.bs hg.size⟩
 ·rcases h.r2 with e2|e2
  ·rw[e2] at e;exact h2 e
  ·have:=e2 i e.symm;omega
 ·rcases hat with e|e
  ·rcases h.r2 with e2|e2
   ·exact .inl (by rw[←e2,e];rfl)
   ·exact .inr (fun k hk=>by have hk':some g=some k:=hk;cases hk';exact e2 g e)
  ·exact .inr (fun k hk=>by have hk':some g=some k:=hk;cases hk';omega)
 ·have hk':some g=some k:=hk2;cases hk';rcases hat with e|e
  ·exact h.dj g hk e
  ·have:=(h.l.lt g hk).2;omega
theorem PL.box {O:Nat}(h:PL wc w base v1 v2 u1 u2 L N){L0:List H32}{N0:List ByteArray}(hg:LG wc O base v1 v2 L0 N0):ABoxZ w O 92 [v1,v2]:=
 (h.block O hg.o.lt hg.o1 hg.o2).trans hg.o
theorem PL.finish {O:Nat}(h:PL wc w base v1 v2 u1 u2 L N){L0:List H32}{N0:List ByteArray}(hg:LG wc O base v1 v2 L0 N0):
 LG ((w.setCell ⟨O,0,none⟩ u1).setCell ⟨O,1,none⟩ u2) O base u1 u2 L N∧Below base wc ((w.setCell ⟨O,0,none⟩ u1).setCell ⟨O,1,none⟩ u2):=by
 have hO:=hg.o.lt
 have n1:some O≠u1.ownBlock:=fun e=>by
  rcases h.r1 with e2|e2
  ·rw[e2] at e;exact hg.o1 e
  ·have:=e2 O e.symm;omega
 have n2:some O≠u2.ownBlock:=fun e=>by
  rcases h.r2 with e2|e2
  ·rw[e2] at e;exact hg.o2 e
  ·have:=e2 O e.symm;omega
 have hk:∀g,g≠O→((w.setCell ⟨O,0,none⟩ u1).setCell ⟨O,1,none⟩ u2).heap[g]? =w.heap[g]? :=fun g hne=>(Qal _ _ _ _ hne).trans (Qal _ _ _ _ hne)
 refine⟨⟨((h.box hg).set 0 u1).set 1 u2,Qc3 h.l (fun g e=>hk g (fun e2=>n1 (by rw[e,e2]))),Qcv h.n (fun g e=>hk g (fun e2=>n2 (by rw[e,e2]))),hg.ob,n1,n2,h.dj,by have:=h.bs;simp;omega⟩,?_⟩;have hb:Below base wc w:=⟨h.os,h.tape,h.output,h.size,fun i hi=>h.block i (by have:=hg.bs;omega) (fun e=>by have:=(hg.l.lt i e.symm).1;omega) (fun e=>by have:=(hg.n.lt i e.symm).1;omega)⟩;exact(hb.setCell (p:=⟨O,0,none⟩) hg.ob u1).setCell (p:=⟨O,1,none⟩) hg.ob u2
theorem LTZ.push1 {B g cap m:Nat}{es:Array Value}{te:TypeId}(h:LTZ w B es te u1 u2)(hg:w.grownBy w5 u1.ownBlock)(hat:u1.ownBlock=some g∨g=w.heap.size):LTZ w5 B es te (.slice (some ⟨g,0,none⟩) m cap) u2:=by
 have hlt:=(Array.getElem?_eq_some_iff.1 h.b).1;refine⟨(hg.block B hlt h.n1).trans h.b,fun e=>?_,h.n2⟩;have e':some B=some g:=e;cases e';rcases hat with e|e
 ·exact h.n1 e.symm
 ·omega
end
def addOne (branch:Int)(p:List H32 × List ByteArray)(s:Sheet):List H32 × List ByteArray:=
 if lastIx p.2 s.label<0∨(p.1[(lastIx p.2 s.label).toNat]?).map (·.l)≠some (leafOf branch s) then(p.1++[⟨leafOf branch s⟩],p.2++[s.label]) else p
set_option maxRecDepth 100000 in
theorem add1_any (branch:Int)(s:Sheet)(A B:Option Addr)(c d Bb O base:Nat)(v1 v2:Value)(L:List H32)(N:List ByteArray)(w:World)(hbr:I64Z branch)(hbb:w.cell? ⟨Bb,0,none⟩=some (.int .i64 branch))(hbl:Bb<base) (ha:Sl w (fun b=>b<base) A c s.body) (hb:Sl w (fun b=>b<base) B d s.notes) (hsz:(Qbm branch s).length≤1073740000) (hK:KLaid w) (hg:LG w O base v1 v2 L N) (hln:L.length=N.length) (hlm:L.length≤1048576):
 Calls Tryz.prog 98 #[.agg #[.string s.label,.slice A s.body.length c,.slice B s.notes.length d],.pointer (some ⟨Bb,0,none⟩),.pointer (some ⟨O,0,none⟩)] w fun e w'=>e=.returned (.tuple #[])∧ ∃v1' v2',LG w' O base v1' v2' (addOne branch (L,N) s).1 (addOne branch (L,N) s).2∧Below base w w':=by
 have HA:=Lh ha;have HB:=Lh hb;have HK:=Lh hK;have HBR:=Lh hbr;have HSZ:=Lh hsz;have HG:=Lh hg;have HBB:=Lh hbb;have HBL:=Lh hbl;have HLN:=Lh hln;have HLM:=Lh hlm;clear ha hb hK hbr hsz hg hbb hbl hln hlm;go_enter Tryz.func98,Tryz.ntmps98;go_upto_region 1 with(fail);have hba:Below w.heap.size w (w.alloc (.cells #[.string s.label,.slice A s.body.length c,.slice B s.notes.length d] 46)):=bR.alloc nL _;have HBa:Hid (Below base w (w.alloc (.cells #[.string s.label,.slice A s.body.length c,.slice B s.notes.length d] 46))):=Lh (hba.mono HG.out.bs);have HD:Hid (ABoxZ (w.alloc (.cells #[.string s.label,.slice A s.body.length c,.slice B s.notes.length d] 46)) w.heap.size 46 [.string s.label,.slice A s.body.length c,.slice B s.notes.length d]):=Lh (heap_alloc_new w _);have HG1:=Lh (HG.out.to hba);have HDB:Hid (base≤w.heap.size):=Lh HG.out.bs;have HRD:Hid (∀g,v1.ownBlock=some g∨v2.ownBlock=some g→g<w.heap.size):=Lh (fun g hg=>hg.elim (fun h=>(HG.out.l.lt g h).2) (fun h=>(HG.out.n.lt g h).2));have HLF:=Lh (Qck branch s A B c d _ HBR.out (HA.out.at_base HBa.out) (HB.out.at_base HBa.out) HSZ.out (HK.out.to hba));have k0:=(HBa.out.cell (p:=⟨Bb,0,none⟩) HBL.out).trans HBB.out;have k1:=HD.out.cell 0 rfl;have k2:=HD.out.cell 1 rfl;have k3:=HD.out.cell 2 rfl;clear hba HG HA HB HK;generalize (w.alloc (.cells #[.string s.label,.slice A s.body.length c,.slice B s.notes.length d] 46))=w1 at*;generalize w.heap.size=D at*;have hlf:Qar (leafOf branch s)=.agg ((leafOf branch s).map Qab).toArray:=rfl;rw[hlf] at HLF;have HSZ2:=Lh (QaB (show(leafOf branch s).length=32 from Qan _));have HC1:=Lh (QaH (leafOf branch s));clear hlf;generalize hcs:((leafOf branch s).map Qab).toArray=cs at*;have HCS:=Lh hcs;clear hcs;go_wp2_with fail;refine HLF.out.mono ?_;rintro e w3 ⟨rfl,hb3⟩;have HG3:=Lh (HG1.out.to hb3);have HD3:=Lh (HD.out.to hb3);have HB3:=Lh (HBa.out.trans (hb3.mono HG1.out.bs));clear k0 k1 k2 k3 hb3 HG1 HD HBa HLF
 go_upto_region 2 with(first|(refine wpList_store_row rfl 101 (.tmp 4) (.tmp 8) rfl w3.heap.size cs rfl rfl 101 _ (heap_alloc_new w3 _) (by rw[HSZ2.out];kernel_rfl) (by rw[HSZ2.out];rfl) HC1.out ?_)|fail)
 generalize hw4:(World.setRow (World.alloc w3 _) _ _)=w4;have hb4:Below w3.heap.size w3 w4:=by rw[←hw4];exact Qax (bR.alloc nL _) nL _
 have HH4:Hid (w4.heap[w3.heap.size]? =some (.cells cs 101 (0,0))):=by rw[←hw4];exact Lh (setRow_heap _ _ _ cs _ _ (heap_alloc_new w3 _))
 have HG4:=Lh (HG3.out.to hb4);have HD4:=Lh (HD3.out.to hb4);have HB4:=Lh (HB3.out.trans (hb4.mono HG3.out.bs));have HHL:Hid (O<w3.heap.size∧D<w3.heap.size∧base≤w3.heap.size):=Lh ⟨HG3.out.o.lt,HD3.out.lt,HG3.out.bs⟩;have HHN:Hid (∀g,v1.ownBlock=some g∨v2.ownBlock=some g→g<w3.heap.size):=Lh (fun g hg=>hg.elim (fun h=>(HG3.out.l.lt g h).2) (fun h=>(HG3.out.n.lt g h).2));clear hw4 hb4 HG3 HD3 HB3;generalize w3.heap.size=Hb at*;obtain⟨A2,c2,rfl,hsl2⟩:=HG4.out.n.sl;obtain⟨A1,c1,rfl,hsl1⟩:=HG4.out.l.sl;have HS1:=Lh hsl1;have HLA:=Lh (last_anyZ A1 A2 L.length c1 c2 _ N s.label w4 hsl2 rfl (by have:=HLN.out;have:=HLM.out;omega));have k0:=HG4.out.o.cell 0 rfl;have k1:=HG4.out.o.cell 1 rfl;have k2:=HD4.out.cell 0 rfl;clear hsl2 hsl1;go_wp2_with fail;refine HLA.out.mono ?_;rintro e w5 ⟨rfl,hb5⟩;have HG5:=Lh (HG4.out.to hb5);have HD5:=Lh (HD4.out.to hb5);have HH5:Hid (w5.heap[Hb]? =some (.cells cs 101 (0,0))):=Lh ((hb5.block Hb (Array.getElem?_eq_some_iff.1 HH4.out).1).trans HH4.out);have HB5:=Lh (HB4.out.trans (hb5.mono HG4.out.bs));have HS5:=Lh (HS1.out.to hb5);clear hb5 HG4 HD4 HH4 HB4 HS1 HLA k0 k1 k2;go_upto_region 3 with(fail);go_upto_region 3 with(fail);have HCOND:Hid (∃cond:Bool,cond=decide (lastIx N s.label<0∨(L[(lastIx N s.label).toNat]?).map (·.l)≠some (leafOf branch s))):=Lh ⟨_,rfl⟩;obtain⟨cond,hcond⟩:=HCOND.out;have HCD:=Lh hcond;clear hcond HCOND;have hKX:=QdO N s.label;generalize hkx:lastIx N s.label=kx at*;have HKX:=Lh hkx;clear hkx;go_cut [23] from 13 to 23 (fun v wx=>v=.bool cond∧Hid (Below w5.heap.size w5 wx));case first=>
  rcases hKX with rfl|⟨j,hj,rfl⟩
  ·have hct:cond=true:=by rw[HCD.out];simp
   subst hct;go_wp2_with fail;go_quiet (fail);unfold Exit.then;go_wp2_with fail;go_meet;exact⟨rfl,Lh (Below.dn bR nq)⟩
  ·have hj0:¬(j:Int)<0:=by omega
   have hjL:j<L.length:=(by rw[HLN.out];exact hj);have hjL2:(j:Int)<(L.length:Int):=(by omega);have hj1:(0:Int)≤(j:Int):=(by omega);obtain⟨bL,oL,rfl,_,hbl,hrg,hel⟩:=h32_at HS5.out hjL
   have HCN:Hid (cond= !decide (L[j].l=leafOf branch s)):=Lh (by
    rw[HCD.out,qG (show((j:Int)).toNat<L.length by omega)]
    simp only[Int.toNat_natCast,Option.map_some,Option.some.injEq,ne_eq]
    by_cases e:L[j].l=leafOf branch s<;>simp[e,hj0])
   have HNQ:Hid (∀W,(binOp .neq 101 (.agg (L[j].l.map Qab).toArray) (.agg cs)).run Tryz.prog W=.ok (.bool cond) W):=Lh (fun W=>by rw[←HCS.out,HCN.out];exact QdP _ _ hel (Qan _) W);have HEL:Hid ((L[j].l.map Qab).length=32):=Lh (by rw[qM];exact hel);generalize L[j].l=el at*;have SK:∀w',Below w5.heap.size w5 w'→w'.cell? ⟨O,0,none⟩=some (.slice (some ⟨bL,oL,none⟩) L.length c1)∧w'.rangeAt bL (oL+j*32) (el.map Qab)∧w'.heap[Hb]? =some (.cells cs 101 (0,0)):=fun w' hb=>
    ⟨(hb.cell (p:=⟨O,0,none⟩) HG5.out.o.lt).trans (HG5.out.o.cell 0 rfl),fun i v hv=>(hb.cell (p:=⟨bL,_,none⟩) hbl).trans (hrg i v hv),(hb.block Hb (Array.getElem?_eq_some_iff.1 HH5.out).1).trans HH5.out⟩
   go_wp2_with fail;refine Qaj (fun w'=>w'.cell? ⟨O,0,none⟩=some (.slice (some ⟨bL,oL,none⟩) L.length c1)∧w'.rangeAt bL (oL+j*32) (el.map Qab)∧w'.heap[Hb]? =some (.cells cs 101 (0,0))) (fun _=>true) (by kernel_rfl) ?_;have hHeld:=SK _ (Below.refl w5.heap.size w5).drew;refine Qaa (i:=0) (oi:=⟨some 13,Op.move (.tmp 5),3,_,_,_⟩) (v:=?_) rfl (by kernel_rfl) (by kernel_rfl) (by kernel_rfl) (by kernel_rfl) (by kernel_rfl) (fun _ _ _ h=>h) (by rfl) ?zq0 hHeld ?zq1;(case zq0=>intro wS hSw;(try dsimp only at hSw);go_simp;(try with_reducible rfl));(all_goals try(go_frame));refine Qaa (i:=1) (oi:=⟨some 14,Op.binOp BinOp.lss 3 (.tmp 13) (Operand.const (Value.int IntKind.i64 0)) 3,4,_,_,_⟩) (v:=?_) rfl (by kernel_rfl) (by kernel_rfl) (by kernel_rfl) (by kernel_rfl) (by kernel_rfl) (fun _ _ _ h=>h) (by rfl) ?zq2 hHeld ?zq3;(case zq2=>intro wS hSw;(try dsimp only at hSw);go_simp;(try with_reducible rfl));(all_goals try(go_frame));refine Qaa (i:=2) (oi:=⟨some 15,Op.move (.tmp 14),4,_,_,_⟩) (v:=?_) rfl (by kernel_rfl) (by kernel_rfl) (by kernel_rfl) (by kernel_rfl) (by kernel_rfl) (fun _ _ _ h=>h) (by rfl) ?zq4 hHeld ?zq5;(case zq4=>intro wS hSw;(try dsimp only at hSw);go_simp;(try with_reducible rfl));(all_goals try(go_frame));refine Qaa (i:=3) (oi:=⟨some 16,Op.fieldAddr 92 (.tmp 2) 0,0,_,_,_⟩) (v:=?_) rfl (by kernel_rfl) (by kernel_rfl) (by kernel_rfl) (by kernel_rfl) (by kernel_rfl) (fun _ _ _ h=>h) (by rfl) ?zq6 hHeld ?zq7;(case zq6=>intro wS hSw;(try dsimp only at hSw);go_simp;(try with_reducible rfl));(all_goals try(go_frame));refine Qaa (i:=4) (oi:=⟨some 17,Op.load 90 (.tmp 16),90,_,_,_⟩) (v:=?_) rfl (by kernel_rfl) (by kernel_rfl) (by kernel_rfl) (by kernel_rfl) (by kernel_rfl) (fun _ _ _ h=>h) (by rfl) ?zq8 hHeld ?zq9;(case zq8=>intro wS hSw;(try dsimp only at hSw);go_simp;(try with_reducible rfl));(all_goals try(go_frame));refine Qaa (i:=5) (oi:=⟨some 18,Op.move (.tmp 5),3,_,_,_⟩) (v:=?_) rfl (by kernel_rfl) (by kernel_rfl) (by kernel_rfl) (by kernel_rfl) (by kernel_rfl) (fun _ _ _ h=>h) (by rfl) ?zq10 hHeld ?zq11;(case zq10=>intro wS hSw;(try dsimp only at hSw);go_simp;(try with_reducible rfl));(all_goals try(go_frame));refine Qaa (i:=6) (oi:=⟨some 19,Op.indexAddr 90 (.tmp 17) (.tmp 18),0,_,_,_⟩) (v:=?_) rfl (by kernel_rfl) (by kernel_rfl) (by kernel_rfl) (by kernel_rfl) (by kernel_rfl) (fun _ _ _ h=>h) (by rfl) ?zq12 hHeld ?zq13;(case zq12=>intro wS hSw;(try dsimp only at hSw);go_simp;(try with_reducible rfl));(all_goals try(go_frame));refine Qaa (i:=7) (oi:=⟨some 20,Op.load 101 (.tmp 19),101,_,_,_⟩) (v:=?_) rfl (by kernel_rfl) (by kernel_rfl) (by kernel_rfl) (by kernel_rfl) (by kernel_rfl) (fun _ _ _ h=>h) (by rfl) ?zq14 hHeld ?zq15;(case zq14=>intro wS hSw;refine QaV 101 (.tmp 19) ?_ bL (oL+j*32) ?_ (el.map Qab) _ hSw.2.1 Tryz.underlying101 ?_ ?_;rfl;rfl;rfl;(rw[HEL.out];kernel_rfl));(all_goals try(go_frame));refine Qaa (i:=8) (oi:=⟨some 21,Op.load 101 (.tmp 4),101,_,_,_⟩) (v:=?_) rfl (by kernel_rfl) (by kernel_rfl) (by kernel_rfl) (by kernel_rfl) (by kernel_rfl) (fun _ _ _ h=>h) (by rfl) ?zq16 hHeld ?zq17;(case zq16=>intro wS hSw;refine Qa0 101 (.tmp 4) ?_ Hb ?_ 101 cs (0,0) _ hSw.2.2 Tryz.underlying101 ?_ ?_;rfl;rfl;rfl;(rw[HSZ2.out];kernel_rfl));(all_goals try(go_frame));refine Qaa (i:=9) (oi:=⟨some 22,Op.binOp BinOp.neq 101 (.tmp 20) (.tmp 21) 101,4,_,_,_⟩) (v:=?_) rfl (by kernel_rfl) (by kernel_rfl) (by kernel_rfl) (by kernel_rfl) (by kernel_rfl) (fun _ _ _ h=>h) (by rfl) ?zq18 hHeld ?zq19;(case zq18=>intro wS hSw;refine exec_neq 101 101 (.tmp 20) (.tmp 21) ?_ (el.map Qab).toArray cs ?_ ?_ guard_h cond (HNQ.out wS);rfl;rfl;rfl);(all_goals try(go_frame));refine Qaa (i:=10) (oi:=⟨some 23,Op.pick (.tmp 15) (Operand.const (Value.bool true)) (.tmp 22),4,_,_,_⟩) (v:=?_) rfl (by kernel_rfl) (by kernel_rfl) (by kernel_rfl) (by kernel_rfl) (by kernel_rfl) (fun _ _ _ h=>h) (by rfl) ?zq20 hHeld ?zq21;(case zq20=>intro wS hSw;(try dsimp only at hSw);go_simp;(try with_reducible rfl));(all_goals try(go_frame));refine Qae (by kernel_rfl) ?_ _;unfold Exit.then;go_wp2_with fail;go_meet;have hjf:decide ((j:Int)<0)=false:=decide_eq_false (by omega);exact⟨by rw[hjf,Bool.false_or],Lh bR.drew⟩
 case rest=>
  obtain⟨rfl,hbc⟩:=hcut;have HG6:=Lh (HG5.out.to hbc.out);have HD6:=Lh (HD5.out.to hbc.out);have HH6:Hid (wc.heap[Hb]? =some (.cells cs 101 (0,0))):=Lh ((hbc.out.block Hb (Array.getElem?_eq_some_iff.1 HH5.out).1).trans HH5.out);have HB6:=Lh (HB5.out.trans (hbc.out.mono HG5.out.bs));clear hbc HG5 HD5 HH5 HB5 HS5;cases cond with
  |false=>
   have HAO:Hid (addOne branch (L,N) s=(L,N)):=Lh (by
    unfold addOne
    simp only[HKX.out]
    rw[if_neg (by simpa using HCD.out.symm)])
   go_wp2_with fail;go_end0;exact⟨rfl,_,_,by rw[HAO.out];exact HG6.out,HB6.out⟩
  |true=>
   have HAO:Hid (addOne branch (L,N) s=(L++[⟨leafOf branch s⟩],N++[s.label])):=Lh (by
    unfold addOne
    simp only[HKX.out]
    rw[if_pos (by simpa using HCD.out.symm)])
   have SP:∀(w':World) (u1 u2:Value) (L':List H32) (N':List ByteArray),PL wc w' base (.slice A1 L.length c1) (.slice A2 N.length c2) u1 u2 L' N'→w'.cell? ⟨O,0,none⟩=some (.slice A1 L.length c1)∧w'.cell? ⟨O,1,none⟩=some (.slice A2 N.length c2)∧w'.heap[Hb]? =some (.cells cs 101 (0,0))∧w'.cell? ⟨D,0,none⟩=some (.string s.label):=fun w' u1 u2 L' N' h=>by
    have hb:=h.box HG6.out;have hd:ABoxZ w' D 46 [.string s.label,.slice A s.body.length c,.slice B s.notes.length d]:=(h.block D HD6.out.lt (fun e=>by have:=HRD.out D (.inl e.symm);omega) (fun e=>by have:=HRD.out D (.inr e.symm);omega)).trans HD6.out;exact⟨hb.cell 0 rfl,hb.cell 1 rfl,(h.block Hb (Array.getElem?_eq_some_iff.1 HH6.out).1 (fun e=>by have:=HHN.out Hb (.inl e.symm);omega) (fun e=>by have:=HHN.out Hb (.inr e.symm);omega)).trans HH6.out,hd.cell 0 rfl⟩
   go_wp2_with fail;refine Qaj (fun w'=>w'.cell? ⟨O,0,none⟩=some (.slice A1 L.length c1)∧w'.cell? ⟨O,1,none⟩=some (.slice A2 N.length c2)∧w'.heap[Hb]? =some (.cells cs 101 (0,0))∧w'.cell? ⟨D,0,none⟩=some (.string s.label)) (fun i=>decide (i<12)) (by kernel_rfl) ?_;have hp0:=Lh (PL.start HG6.out);have hHeld:=SP _ _ _ _ _ hp0.out;generalize wc.drew=W0 at*;refine Qaa (i:=0) (oi:=⟨some 24,Op.fieldAddr 92 (.tmp 2) 0,0,_,_,_⟩) (v:=?_) rfl (by kernel_rfl) (by kernel_rfl) (by kernel_rfl) (by kernel_rfl) (by kernel_rfl) (fun _ _ _ h=>h) (by rfl) ?zq22 hHeld ?zq23;(case zq22=>intro wS hSw;(try dsimp only at hSw);go_simp;(try with_reducible rfl));(all_goals try(go_frame));refine Qaa (i:=1) (oi:=⟨some 25,Op.load 90 (.tmp 24),90,_,_,_⟩) (v:=?_) rfl (by kernel_rfl) (by kernel_rfl) (by kernel_rfl) (by kernel_rfl) (by kernel_rfl) (fun _ _ _ h=>h) (by rfl) ?zq24 hHeld ?zq25;(case zq24=>intro wS hSw;(try dsimp only at hSw);go_simp;(try with_reducible rfl));(all_goals try(go_frame));refine Qaa (i:=2) (oi:=⟨some 26,Op.load 101 (.tmp 4),101,_,_,_⟩) (v:=?_) rfl (by kernel_rfl) (by kernel_rfl) (by kernel_rfl) (by kernel_rfl) (by kernel_rfl) (fun _ _ _ h=>h) (by rfl) ?zq26 hHeld ?zq27;(case zq26=>intro wS hSw;refine Qa0 101 (.tmp 4) ?_ Hb ?_ 101 cs (0,0) _ hSw.2.2.1 Tryz.underlying101 ?_ ?_;rfl;rfl;rfl;(rw[HSZ2.out];kernel_rfl));(all_goals try(go_frame));refine Qaa (i:=5) (oi:=⟨some 29,Op.fieldAddr 92 (.tmp 2) 1,0,_,_,_⟩) (v:=?_) rfl (by kernel_rfl) (by kernel_rfl) (by kernel_rfl) (by kernel_rfl) (by kernel_rfl) (fun _ _ _ h=>h) (by rfl) ?zq28 hHeld ?zq29;(case zq28=>intro wS hSw;(try dsimp only at hSw);go_simp;(try with_reducible rfl));(all_goals try(go_frame));refine Qaa (i:=6) (oi:=⟨some 30,Op.load 44 (.tmp 29),44,_,_,_⟩) (v:=?_) rfl (by kernel_rfl) (by kernel_rfl) (by kernel_rfl) (by kernel_rfl) (by kernel_rfl) (fun _ _ _ h=>h) (by rfl) ?zq30 hHeld ?zq31;(case zq30=>intro wS hSw;(try dsimp only at hSw);go_simp;(try with_reducible rfl));(all_goals try(go_frame));refine Qaa (i:=7) (oi:=⟨some 31,Op.fieldAddr 46 (.tmp 3) 0,0,_,_,_⟩) (v:=?_) rfl (by kernel_rfl) (by kernel_rfl) (by kernel_rfl) (by kernel_rfl) (by kernel_rfl) (fun _ _ _ h=>h) (by rfl) ?zq32 hHeld ?zq33;(case zq32=>intro wS hSw;(try dsimp only at hSw);go_simp;(try with_reducible rfl));(all_goals try(go_frame));refine Qaa (i:=8) (oi:=⟨some 32,Op.load 9 (.tmp 31),9,_,_,_⟩) (v:=?_) rfl (by kernel_rfl) (by kernel_rfl) (by kernel_rfl) (by kernel_rfl) (by kernel_rfl) (fun _ _ _ h=>h) (by rfl) ?zq34 hHeld ?zq35;(case zq34=>intro wS hSw;(try dsimp only at hSw);go_simp;(try with_reducible rfl));(all_goals try(go_frame));refine QaW (i:=3) (j:=9) (oi:=⟨some 27,Op.buildSlice 90 1 #[(0,.tmp 26)],90,_,_,_⟩) (oj:=⟨some 33,Op.buildSlice 44 1 #[(0,.tmp 32)],44,_,_,_⟩) (by kernel_rfl) rfl rfl (by rfl) (by rfl) (fun K hK=>?_) (fun K hK=>?_)
   ·refine Qex (.tmp 26) rfl cs rfl HSZ2.out ?_;refine hK _ _ (fun _=>?_) ?_
    ·exact SP _ _ _ _ _ ((hp0.out).alloc (.cells cs 101))
    clear hK K hHeld;have hp1:=Lh (hp0.out.alloc (.cells cs 101));have hl1:=Lh (hp0.out.lit cs 101);generalize W0.heap.size=B1 at*;generalize W0.alloc (.cells cs 101)=W1 at*;have hHeld:=SP _ _ _ _ _ hp1.out;(try go_frame);refine QaW (i:=4) (j:=9) (oi:=⟨some 28,Op.call {callee:=Callee.builtin Builtin.append,args:=#[Operand.tmp 25,Operand.tmp 27],argTypes:=#[90,90]},90,_,_,_⟩) (oj:=⟨some 33,Op.buildSlice 44 1 #[(0,.tmp 32)],44,_,_,_⟩) (by kernel_rfl) rfl rfl (by rfl) (by rfl) (fun K hK=>?_) (fun K hK=>?_)
    ·refine Qb2 (α:=H32) _ (.tmp 25) (.tmp 27) 90 rfl base 101 (.agg (Qaf.map Qab).toArray) 32 Tryz.underlying90 Qe0 rfl (by decide) (.slice A1 L.length c1) L rfl hp1.out.l B1 cs ⟨leafOf branch s⟩ (0,0) 101 rfl hl1.out.b ⟨by rw[←HCS.out],Qan _⟩ (by have:=HLM.out;omega) (by have:=HLM.out;omega) hp1.out.bs _ rfl ?_;intro g2 p2 W2 hown2 hg2 hat2 hlt2;have hp2:=Lh (hp1.out.push1 hown2 hg2 hat2);refine hK _ _ (fun _=>?_) ?_
     ·exact SP _ _ _ _ _ hp2.out
     clear hK K hHeld;have hHeld:=SP _ _ _ _ _ hp2.out;(try go_frame);refine Qaa (i:=11) (oi:=⟨some 35,Op.fieldAddr 92 (.tmp 2) 0,0,_,_,_⟩) (v:=?_) rfl (by kernel_rfl) (by kernel_rfl) (by kernel_rfl) (by kernel_rfl) (by kernel_rfl) (fun _ _ _ h=>h) (by rfl) ?zq36 hHeld ?zq37;(case zq36=>intro wS hSw;(try dsimp only at hSw);go_simp;(try with_reducible rfl));(all_goals try(go_frame));refine tD 9 ⟨some 33,Op.buildSlice 44 1 #[(0,.tmp 32)],44,_,_,_⟩ rfl fun K hK=>?_
     go_simp;refine hK _ _ (fun _=>?_) ?_
     ·exact SP _ _ _ _ _ ((hp2.out).alloc (.cells #[.string s.label] 9))
     clear hK K hHeld;have hp3:=Lh (hp2.out.alloc (.cells #[.string s.label] 9));have hl3:=Lh (hp2.out.lit #[.string s.label] 9);generalize W2.heap.size=B3 at*;generalize W2.alloc (.cells #[.string s.label] 9)=W3 at*;have hHeld:=SP _ _ _ _ _ hp3.out;(try go_frame);refine tD 10 ⟨some 34,Op.call {callee:=Callee.builtin Builtin.append,args:=#[Operand.tmp 30,Operand.tmp 33],argTypes:=#[44,44]},44,_,_,_⟩ rfl fun K hK=>?_
     refine Qb2 (α:=ByteArray) _ (.tmp 30) (.tmp 33) 44 rfl base 9 (.string ⟨#[]⟩) 16 Tryz.underlying44 s_info rfl (by decide) (.slice A2 N.length c2) N rfl hp3.out.n B3 #[.string s.label] s.label (0,0) 9 rfl hl3.out.b rfl (by have:=HLM.out;have:=HLN.out;omega) (by have:=HLM.out;have:=HLN.out;omega) hp3.out.bs _ rfl ?_;intro g4 p4 W4 hown4 hg4 hat4 hlt4;have hp4:=Lh (hp3.out.push2 hown4 hg4 hat4);refine hK _ _ (fun _=>?_) ?_
     ·exact SP _ _ _ _ _ hp4.out
     clear hK K hHeld;(try go_frame);obtain⟨hlg,hbl9⟩:=hp4.out.finish HG6.out;have hko:=(hp4.out.box HG6.out);have k90:=hko.cell 0 rfl;have f90:=hko.fz;have k91:=(hko.set 0 (.slice (some ⟨g2,0,none⟩) (L.length+1) p2)).cell 1 rfl;have f91:=(hko.set 0 (.slice (some ⟨g2,0,none⟩) (L.length+1) p2)).fz;refine tD 12 ⟨none,Op.store 90 (.tmp 35) (.tmp 28),0,_,_,_⟩ rfl fun K hK=>?_
     go_simp;refine hK _ _ (fun h=>absurd h (by decide)) ?_;clear hK K;(try go_frame);refine tD 13 ⟨some 36,Op.fieldAddr 92 (.tmp 2) 1,0,_,_,_⟩ rfl fun K hK=>?_
     go_simp;refine hK _ _ (fun h=>absurd h (by decide)) ?_;clear hK K;(try go_frame);refine tD 14 ⟨none,Op.store 44 (.tmp 36) (.tmp 34),0,_,_,_⟩ rfl fun K hK=>?_
     go_simp;refine hK _ _ (fun h=>absurd h (by decide)) ?_;clear hK K;(try go_frame);refine Qae (by kernel_rfl) ?_ _;go_end0;exact⟨rfl,_,_,by rw[HAO.out];exact hlg,HB6.out.trans hbl9⟩
    ·go_simp;refine hK _ _ (fun _=>?_) ?_
     ·exact SP _ _ _ _ _ ((hp1.out).alloc (.cells #[.string s.label] 9))
     clear hK K hHeld;have hp2:=Lh (hp1.out.alloc (.cells #[.string s.label] 9));have hl2:=Lh (hp1.out.lit #[.string s.label] 9);have hl12:=Lh (hl1.out.alloc (.cells #[.string s.label] 9));generalize W1.heap.size=B2 at*;generalize W1.alloc (.cells #[.string s.label] 9)=W2 at*;have hHeld:=SP _ _ _ _ _ hp2.out;(try go_frame);refine tD 4 ⟨some 28,Op.call {callee:=Callee.builtin Builtin.append,args:=#[Operand.tmp 25,Operand.tmp 27],argTypes:=#[90,90]},90,_,_,_⟩ rfl fun K hK=>?_
     refine Qb2 (α:=H32) _ (.tmp 25) (.tmp 27) 90 rfl base 101 (.agg (Qaf.map Qab).toArray) 32 Tryz.underlying90 Qe0 rfl (by decide) (.slice A1 L.length c1) L rfl hp2.out.l B1 cs ⟨leafOf branch s⟩ (0,0) 101 rfl hl12.out.b ⟨by rw[←HCS.out],Qan _⟩ (by have:=HLM.out;omega) (by have:=HLM.out;omega) hp2.out.bs _ rfl ?_;intro g3 p3 W3 hown3 hg3 hat3 hlt3;have hp3:=Lh (hp2.out.push1 hown3 hg3 hat3);have hl23:=Lh (LTZ.push1 (m:=L.length+1) (cap:=p3) hl2.out hg3 hat3);refine hK _ _ (fun _=>?_) ?_
     ·exact SP _ _ _ _ _ hp3.out
     clear hK K hHeld;have hHeld:=SP _ _ _ _ _ hp3.out;(try go_frame);refine Qaa (i:=11) (oi:=⟨some 35,Op.fieldAddr 92 (.tmp 2) 0,0,_,_,_⟩) (v:=?_) rfl (by kernel_rfl) (by kernel_rfl) (by kernel_rfl) (by kernel_rfl) (by kernel_rfl) (fun _ _ _ h=>h) (by rfl) ?zq38 hHeld ?zq39;(case zq38=>intro wS hSw;(try dsimp only at hSw);go_simp;(try with_reducible rfl));(all_goals try(go_frame));refine tD 10 ⟨some 34,Op.call {callee:=Callee.builtin Builtin.append,args:=#[Operand.tmp 30,Operand.tmp 33],argTypes:=#[44,44]},44,_,_,_⟩ rfl fun K hK=>?_
     refine Qb2 (α:=ByteArray) _ (.tmp 30) (.tmp 33) 44 rfl base 9 (.string ⟨#[]⟩) 16 Tryz.underlying44 s_info rfl (by decide) (.slice A2 N.length c2) N rfl hp3.out.n B2 #[.string s.label] s.label (0,0) 9 rfl hl23.out.b rfl (by have:=HLM.out;have:=HLN.out;omega) (by have:=HLM.out;have:=HLN.out;omega) hp3.out.bs _ rfl ?_;intro g4 p4 W4 hown4 hg4 hat4 hlt4;have hp4:=Lh (hp3.out.push2 hown4 hg4 hat4);refine hK _ _ (fun _=>?_) ?_
     ·exact SP _ _ _ _ _ hp4.out
     clear hK K hHeld;(try go_frame);obtain⟨hlg,hbl9⟩:=hp4.out.finish HG6.out;have hko:=(hp4.out.box HG6.out);have k90:=hko.cell 0 rfl;have f90:=hko.fz;have k91:=(hko.set 0 (.slice (some ⟨g3,0,none⟩) (L.length+1) p3)).cell 1 rfl;have f91:=(hko.set 0 (.slice (some ⟨g3,0,none⟩) (L.length+1) p3)).fz;refine tD 12 ⟨none,Op.store 90 (.tmp 35) (.tmp 28),0,_,_,_⟩ rfl fun K hK=>?_
     go_simp;refine hK _ _ (fun h=>absurd h (by decide)) ?_;clear hK K;(try go_frame);refine tD 13 ⟨some 36,Op.fieldAddr 92 (.tmp 2) 1,0,_,_,_⟩ rfl fun K hK=>?_
     go_simp;refine hK _ _ (fun h=>absurd h (by decide)) ?_;clear hK K;(try go_frame);refine tD 14 ⟨none,Op.store 44 (.tmp 36) (.tmp 34),0,_,_,_⟩ rfl fun K hK=>?_
     go_simp;refine hK _ _ (fun h=>absurd h (by decide)) ?_;clear hK K;(try go_frame);refine Qae (by kernel_rfl) ?_ _;go_end0;exact⟨rfl,_,_,by rw[HAO.out];exact hlg,HB6.out.trans hbl9⟩
   ·go_simp;refine hK _ _ (fun _=>?_) ?_
    ·exact SP _ _ _ _ _ ((hp0.out).alloc (.cells #[.string s.label] 9))
    clear hK K hHeld;have hp1:=Lh (hp0.out.alloc (.cells #[.string s.label] 9));have hl1:=Lh (hp0.out.lit #[.string s.label] 9);generalize W0.heap.size=B1 at*;generalize W0.alloc (.cells #[.string s.label] 9)=W1 at*;have hHeld:=SP _ _ _ _ _ hp1.out;(try go_frame);refine tD 3 ⟨some 27,Op.buildSlice 90 1 #[(0,.tmp 26)],90,_,_,_⟩ rfl fun K hK=>?_
    refine Qex (.tmp 26) rfl cs rfl HSZ2.out ?_;refine hK _ _ (fun _=>?_) ?_
    ·exact SP _ _ _ _ _ ((hp1.out).alloc (.cells cs 101))
    clear hK K hHeld;have hp2:=Lh (hp1.out.alloc (.cells cs 101));have hl2:=Lh (hp1.out.lit cs 101);have hl12:=Lh (hl1.out.alloc (.cells cs 101));generalize W1.heap.size=B2 at*;generalize W1.alloc (.cells cs 101)=W2 at*;have hHeld:=SP _ _ _ _ _ hp2.out;(try go_frame);refine tD 4 ⟨some 28,Op.call {callee:=Callee.builtin Builtin.append,args:=#[Operand.tmp 25,Operand.tmp 27],argTypes:=#[90,90]},90,_,_,_⟩ rfl fun K hK=>?_
    refine Qb2 (α:=H32) _ (.tmp 25) (.tmp 27) 90 rfl base 101 (.agg (Qaf.map Qab).toArray) 32 Tryz.underlying90 Qe0 rfl (by decide) (.slice A1 L.length c1) L rfl hp2.out.l B2 cs ⟨leafOf branch s⟩ (0,0) 101 rfl hl2.out.b ⟨by rw[←HCS.out],Qan _⟩ (by have:=HLM.out;omega) (by have:=HLM.out;omega) hp2.out.bs _ rfl ?_;intro g3 p3 W3 hown3 hg3 hat3 hlt3;have hp3:=Lh (hp2.out.push1 hown3 hg3 hat3);have hl123:=Lh (LTZ.push1 (m:=L.length+1) (cap:=p3) hl12.out hg3 hat3);refine hK _ _ (fun _=>?_) ?_
    ·exact SP _ _ _ _ _ hp3.out
    clear hK K hHeld;have hHeld:=SP _ _ _ _ _ hp3.out;(try go_frame);refine Qaa (i:=11) (oi:=⟨some 35,Op.fieldAddr 92 (.tmp 2) 0,0,_,_,_⟩) (v:=?_) rfl (by kernel_rfl) (by kernel_rfl) (by kernel_rfl) (by kernel_rfl) (by kernel_rfl) (fun _ _ _ h=>h) (by rfl) ?zq40 hHeld ?zq41;(case zq40=>intro wS hSw;(try dsimp only at hSw);go_simp;(try with_reducible rfl));(all_goals try(go_frame));refine tD 10 ⟨some 34,Op.call {callee:=Callee.builtin Builtin.append,args:=#[Operand.tmp 30,Operand.tmp 33],argTypes:=#[44,44]},44,_,_,_⟩ rfl fun K hK=>?_
    refine Qb2 (α:=ByteArray) _ (.tmp 30) (.tmp 33) 44 rfl base 9 (.string ⟨#[]⟩) 16 Tryz.underlying44 s_info rfl (by decide) (.slice A2 N.length c2) N rfl hp3.out.n B1 #[.string s.label] s.label (0,0) 9 rfl hl123.out.b rfl (by have:=HLM.out;have:=HLN.out;omega) (by have:=HLM.out;have:=HLN.out;omega) hp3.out.bs _ rfl ?_;intro g4 p4 W4 hown4 hg4 hat4 hlt4;have hp4:=Lh (hp3.out.push2 hown4 hg4 hat4);refine hK _ _ (fun _=>?_) ?_
    ·exact SP _ _ _ _ _ hp4.out
    clear hK K hHeld;(try go_frame);obtain⟨hlg,hbl9⟩:=hp4.out.finish HG6.out;have hko:=(hp4.out.box HG6.out);have k90:=hko.cell 0 rfl;have f90:=hko.fz;have k91:=(hko.set 0 (.slice (some ⟨g3,0,none⟩) (L.length+1) p3)).cell 1 rfl;have f91:=(hko.set 0 (.slice (some ⟨g3,0,none⟩) (L.length+1) p3)).fz;refine tD 12 ⟨none,Op.store 90 (.tmp 35) (.tmp 28),0,_,_,_⟩ rfl fun K hK=>?_
    go_simp;refine hK _ _ (fun h=>absurd h (by decide)) ?_;clear hK K;(try go_frame);refine tD 13 ⟨some 36,Op.fieldAddr 92 (.tmp 2) 1,0,_,_,_⟩ rfl fun K hK=>?_
    go_simp;refine hK _ _ (fun h=>absurd h (by decide)) ?_;clear hK K;(try go_frame);refine tD 14 ⟨none,Op.store 44 (.tmp 36) (.tmp 34),0,_,_,_⟩ rfl fun K hK=>?_
    go_simp;refine hK _ _ (fun h=>absurd h (by decide)) ?_;clear hK K;(try go_frame);refine Qae (by kernel_rfl) ?_ _;go_end0;exact⟨rfl,_,_,by rw[HAO.out];exact hlg,HB6.out.trans hbl9⟩
end Go.Proofs.YtegaapiocihcpaaGreatDoor
namespace Go.Proofs.YtegaapiocihcpaaGreatDoor
open Go.Shelf Go.RowKit
def lays125_ren:Go.Shelf.Ren:=⟨fun|125=>186|128=>211|129=>212|n=>n,fun|3=>3|4=>4|5=>5|9=>9|46=>184|51=>182|53=>201|n=>n,fun|n=>n⟩
theorem lays125:Go.Proofs.Lays.n125 Tryz.prog lays125_ren:={
 mixed:=by kernel_rfl
 f125:=Tryz.func186.trans (congrArg some (by kernel_rfl))
 f128:=Tryz.func211.trans (congrArg some (by kernel_rfl))
 f129:=Tryz.func212.trans (congrArg some (by kernel_rfl))
 t3:=Tryz.underlying3
 a3:=Tryz.isAgg3
 z3:=Tryz.sizeOf3
 v3:=Tryz.zeroValue3
 t4:=Tryz.underlying4
 a4:=Tryz.isAgg4
 z4:=Tryz.sizeOf4
 v4:=Tryz.zeroValue4
 t5:=Tryz.underlying5
 a5:=Tryz.isAgg5
 z5:=Tryz.sizeOf5
 v5:=Tryz.zeroValue5
 t9:=Tryz.underlying9
 a9:=Tryz.isAgg9
 z9:=Tryz.sizeOf9
 v9:=Tryz.zeroValue9
 t46:=Tryz.underlying184
 a46:=Tryz.isAgg184
 z46:=Tryz.sizeOf184
 v46:=Tryz.zeroValue184
 t51:=Tryz.underlying182
 a51:=Tryz.isAgg182
 z51:=Tryz.sizeOf182
 v51:=Tryz.zeroValue182
 t53:=Tryz.underlying201
 a53:=Tryz.isAgg201
 z53:=Tryz.sizeOf201
 v53:=Tryz.zeroValue201}
theorem bits_Len (x:Int)(w:World)(h0:0≤x)(h1:x≤18446744073709551615):
 Calls Tryz.prog 186 #[.int .u64 x] w fun e w'=>e=.returned (.int .i64 (Lib.bitLen x.toNat))∧w=w':=(Any.bits_Len lays125 x w h0 h1).mono fun _ _ h=>⟨h.1,h.2.symm⟩
end Go.Proofs.YtegaapiocihcpaaGreatDoor
