/- Texts of CbC. -/
import Derived.Test.YtegaapiocihcpaaGreatDoorVZj12
import Derived.Lib.ItoaNum
import Derived.BigRegion
import Derived.Lib.AppendIntMem
import Derived.Laws.EntriesVeiled
import Derived.Shelf.Spec.SlicesGrow
import Derived.Shelf.SlGeneric
import Derived.Test.YtegaapiocihcpaaGreatDoorProg
set_option maxHeartbeats 8000000
namespace Go.Proofs.YtegaapiocihcpaaGreatDoor
open Go.RowKit
attribute [local go_sem ↓] Go.wp_at_zero Go.wp_at_succ
theorem selected_3 (A:Option Addr)(c n:Nat)(l:List Seal)(f:FuncId)(c1 c2 c3:Value)(p:Seal→Bool)(w:World)(hl:Sl w (fun b=>b<w.heap.size) A c l)(hn:l.length=n)(hsz:n≤1048576) (hcf:∀(w':World) (args:Array Value),(callFunc f args).run Tryz.prog w'=.ok (.enter f args) w') (hf:∀(s:Seal) (w':World),Below w.heap.size w w'→Calls Tryz.prog f #[.agg #[.int .i64 s.e,.int .i64 s.v,.int .i64 s.f,.int .i64 s.u,.int .i64 s.g],c1,c2,c3] w' fun e w''=>e=.returned (.bool (p s))∧Below w'.heap.size w' w''):
 Calls Tryz.prog 72 #[.slice A n c,.func (.func f) #[] #[c1,c2,c3]] w fun e w'=>∃v,e=.returned v∧Own w' w.heap.size 118 v (l.filter p)∧Below w.heap.size w w':=by
 subst hn;have Hf:=Lh hf;clear hf;go_enter Tryz.func72,Tryz.ntmps72;go_wp2_with fail;go_loopw [5,10] (fun v i wr=>∃k:Nat,k≤l.length∧i=.int .i64 k∧Own wr w.heap.size 118 v ((l.take k).filter p)∧Below w.heap.size w wr) (fun _ i _=>l.length-(intOf i).toNat);(case atStart=>exact⟨0,Nat.zero_le _,rfl,Own.nil _ _ _,Below.refl _ _⟩);case round=>
  obtain⟨k,hk,rfl,hown,hb⟩:=hrel;have hwz:=hb.size;by_cases hlt:k<l.length
  ·obtain⟨b,o,rfl,hbS,hbl,hok,d0,d1,d2,d3,d4⟩:=seal_at (hl.to hb) hlt;have hkl:(k:Int)<(l.length:Int):=(by omega);have hfl:((l.take k).filter p).length≤1048576:=(by have:=List.length_filter_le p (l.take k);rw[qK] at this;omega);have hbx:(wr.alloc (.cells l[k].cells.toArray 118)).heap[wr.heap.size]? =some (.cells l[k].cells.toArray 118 (0,0)):=heap_alloc_new wr _;have hstep:(l.take (k+1)).filter p=if p l[k] then(l.take k).filter p++[l[k]] else(l.take k).filter p:=by
    rw[qT hlt,List.filter_append];cases hp:p l[k]<;>simp[hp]
   have HS:=Lh hstep;clear hstep;have Hbx:=Lh hbx;clear hbx;obtain⟨A1,c1',rfl,hs⟩:=hown.sl;go_wp2_with fail;refine(Hf.out l[k] _ (hb.alloc (by omega) _)).mono ?_;rintro e w1 ⟨rfl,hb1⟩;have hB1:=(hb1.block wr.heap.size (by simp)).trans Hbx.out;obtain⟨e0,e1,e2,e3,e4⟩:=Qc8 hB1;clear hB1 d0 d1 d2 d3 d4;have hbb1:Below wr.heap.size wr w1:=(bR.alloc nL _).trans (hb1.mono (by simp));have hz:=hbb1.size;have hown1:=hown.below hbb1;have hbw1:Below w.heap.size w w1:=hb.trans (hbb1.mono hb.size);clear hb1 hs;cases hp:p l[k]
   ·rw[hp] at HS;have Hp:=Lh hp;clear hp;go_wp2_with fail;go_roundw;(case rel=>exact⟨k+1,by omega,by go_num,by rw[HS.out];exact hown1,hbw1⟩);case measure=>simp[intOf];omega
   ·rw[hp] at HS;have Hp:=Lh hp;clear hp;go_wp2_with (at_builtin;refine Qav (α:=Seal) _ rfl (.tmp 17) (.tmp 19) 26 rfl w.heap.size 118 (.agg #[.int .i64 0,.int .i64 0,.int .i64 0,.int .i64 0,.int .i64 0]) 40 Tryz.underlying26 Qec rfl (by decide) _ _ rfl (hown1.alloc _) w1.heap.size _ l[k] (0,0) 118 rfl (heap_alloc_new w1 _) ⟨rfl,hok⟩ (by omega) (by omega) (by simp;omega) _ rfl ?_;intro g cap w2 hown2 hg2 hat2 hlt2);go_roundw;(case rel=>exact⟨k+1,by omega,by go_num,by rw[HS.out];exact hown2,QbN hbw1 hown1 (by omega) hg2⟩);case measure=>simp[intOf];omega
  ·go_wp2_with fail;go_ret;exact⟨_,rfl,by rw[List.take_of_length_le (by omega)] at hown;exact hown,hb⟩
def onP (e v x:Int)(s:Seal):Bool:=decide (s.e=e∧s.v=v∧s.f≤x∧x<s.u)
theorem onP_t {e v x:Int}{s:Seal}(h:s.e=e∧s.v=v∧s.f≤x∧x<s.u):onP e v x s=true:=decide_eq_true h
theorem onP_f {e v x:Int}{s:Seal}(h:¬(s.e=e∧s.v=v∧s.f≤x∧x<s.u)):onP e v x s=false:=decide_eq_false h
theorem onP_any (s:Seal)(p1 p2 p3:Addr)(e v x:Int)(w:World)(h1:w.cell? p1=some (.int .i64 e))(h2:w.cell? p2=some (.int .i64 v))(h3:w.cell? p3=some (.int .i64 x)):
 Calls Tryz.prog 73 #[.agg #[.int .i64 s.e,.int .i64 s.v,.int .i64 s.f,.int .i64 s.u,.int .i64 s.g],.pointer (some p1),.pointer (some p2),.pointer (some p3)] w fun r w'=>r=.returned (.bool (onP e v x s))∧Below w.heap.size w w':=by
 have g1:=World.block_lt_of_cell? w p1 h1;have g2:=World.block_lt_of_cell? w p2 h2;have g3:=World.block_lt_of_cell? w p3 h3;have k1:∀o,(w.alloc o).cell? p1=some (.int .i64 e):=fun o=>(World.cell?_alloc_lt w o p1 g1).trans h1
 have k2:∀o,(w.alloc o).cell? p2=some (.int .i64 v):=fun o=>(World.cell?_alloc_lt w o p2 g2).trans h2
 have k3:∀o,(w.alloc o).cell? p3=some (.int .i64 x):=fun o=>(World.cell?_alloc_lt w o p3 g3).trans h3
 clear h1 h2 h3;go_enter Tryz.func73,Tryz.ntmps73;go_wp2;(all_goals go_ret);(all_goals refine⟨Qat ?_,bR.alloc nL _⟩);(all_goals clear k1 k2 k3);all_goals first|(symm;apply onP_t;omega)|(symm;apply onP_f;omega)|(unfold onP;apply decide_eq_decide.2;omega)
theorem ofInt_i64 (a:Nat)(ha:a<9223372036854775808):(BitVec.ofInt 64 (a:Int)).toNat=a:=by
 rw[BitVec.ofInt_natCast,BitVec.toNat_ofNat];exact Nat.mod_eq_of_lt (by omega)
theorem i64_or_nat (a b:Nat)(ha:a<9223372036854775808)(hb:b<9223372036854775808):bits .or .i64 (a:Int) (b:Int)=((a ||| b:Nat):Int):=by
 have hx:a ||| b<2^63:=Nat.or_lt_two_pow (by omega) (by omega);show IntKind.i64.wrap ((BitVec.ofInt 64 (a:Int) ||| BitVec.ofInt 64 (b:Int)).toNat:Int)=_;rw[BitVec.toNat_or,ofInt_i64 a ha,ofInt_i64 b hb,IntKind.wrap_i64];omega
theorem or_shl (G:Nat)(g:Int)(hG:G<65536)(h0:0≤g)(h1:g<16):bits .or .i64 (G:Int) (wrap64 (2^g.toNat))=((G ||| 2^g.toNat:Nat):Int):=by
 have hp:2^g.toNat<2^16:=Nat.pow_lt_pow_right (by omega) (by omega);have e:(2:Int)^g.toNat=((2^g.toNat:Nat):Int):=by simp
 rw[e];generalize 2^g.toNat=m at*;have e2:wrap64 (m:Int)=m:=by unfold wrap64;omega
 rw[e2,i64_or_nat G m (by omega) (by omega)]
def may (G:Nat)(x:Int):Bool:=decide (BitVec.ofNat 64 G &&& BitVec.ofInt 64 x=BitVec.ofNat 64 G)
theorem bv_andn (a b:BitVec 64):a &&& ~~~b=0↔a &&& b=a:=by
 constructor
 ·intro h;ext i hi;have h1:=congrArg (fun x:BitVec 64=>x[i]'hi) h;simp at h1;simp;exact h1
 ·intro h;ext i hi;have h1:=congrArg (fun x:BitVec 64=>x[i]'hi) h;simp at h1;simp;exact h1
theorem may_andn (G:Nat)(x:Int):(bits .andNot .i64 (G:Int) x==0)=may G x:=by
 have e:bits .andNot .i64 (G:Int) x=IntKind.i64.wrap ((BitVec.ofNat 64 G &&& ~~~ BitVec.ofInt 64 x).toNat:Int):=by
  rw[←BitVec.ofInt_natCast];rfl
 rw[Bool.eq_iff_iff,may,decide_eq_true_iff,beq_iff_eq,e,IntKind.wrap_i64,←bv_andn,←BitVec.toNat_inj];clear e;generalize BitVec.ofNat 64 G &&& ~~~ BitVec.ofInt 64 x=r;have hr:=r.isLt;simp;omega
theorem groups_any (A:Option Addr)(c n:Nat)(l:List Seal)(e v x:Int)(w:World)(hl:Sl w (fun b=>b<w.heap.size) A c l)(hn:l.length=n)(hsz:n≤1048576)(hg:∀s∈l,0≤s.g∧s.g<16):
 Calls Tryz.prog 29 #[.slice A n c,.int .i64 e,.int .i64 v,.int .i64 x] w fun r w'=>r=.returned (.int .i64 ((gset (l.filter (onP e v x)):Nat):Int))∧Below w.heap.size w w':=by
 generalize hm:l.filter (onP e v x)=m;have Hm:=Lh hm;clear hm;have hb0:Below w.heap.size w (((w.alloc (.cells #[.int .i64 e] 3)).alloc (.cells #[.int .i64 v] 3)).alloc (.cells #[.int .i64 x] 3)):=
  ((bR.alloc nL _).alloc (by simp) _).alloc (by simp;omega) _
 have Hb0:=Lh hb0;have Hl0:=Lh (hl.to hb0);have hc1:(((w.alloc (.cells #[.int .i64 e] 3)).alloc (.cells #[.int .i64 v] 3)).alloc (.cells #[.int .i64 x] 3)).cell? ⟨w.heap.size,0,none⟩=some (.int .i64 e):=by go_simp
 have hc2:(((w.alloc (.cells #[.int .i64 e] 3)).alloc (.cells #[.int .i64 v] 3)).alloc (.cells #[.int .i64 x] 3)).cell? ⟨w.heap.size+1,0,none⟩=some (.int .i64 v):=by go_simp
 have hc3:(((w.alloc (.cells #[.int .i64 e] 3)).alloc (.cells #[.int .i64 v] 3)).alloc (.cells #[.int .i64 x] 3)).cell? ⟨w.heap.size+2,0,none⟩=some (.int .i64 x):=by go_simp
 clear hb0;go_enter Tryz.func29,Tryz.ntmps29;go_wp2_with fail;refine(selected_3 A c n l 73 _ _ _ (onP e v x) _ Hl0.out hn hsz (fun _ _=>by kernel_rfl) (fun s w' hb=>onP_any s _ _ _ e v x w' ((hb.cell (by first|(simp;done)|(simp;omega))).trans hc1) ((hb.cell (by first|(simp;done)|(simp;omega))).trans hc2) ((hb.cell (by first|(simp;done)|(simp;omega))).trans hc3))).mono ?_;rintro r w1 ⟨v1,rfl,hown1,hb1⟩;rw[Hm.out] at hown1;have hfl:m.length≤1048576:=by have:=List.length_filter_le (onP e v x) l;rw[Hm.out] at this;omega
 have hgf:∀s∈m,0≤s.g∧s.g<16:=fun s hs=>hg s (List.mem_filter.1 (by rw[Hm.out];exact hs:s∈l.filter (onP e v x))).1
 have hbw1:Below w.heap.size w w1:=Hb0.out.trans (hb1.mono (by simp;omega));obtain⟨A1,c1,rfl,hs1⟩:=hown1.sl;have Hgf:=Lh hgf;clear hc1 hc2 hc3 hb1 hown1 hgf hg Hb0 Hl0;go_wp2_with fail;go_loopw [9,16] (fun o i wr=>∃k:Nat,k≤m.length∧i=.int .i64 k∧o=.int .i64 ((gset (m.take k):Nat):Int)∧Below w1.heap.size w1 wr) (fun _ i _=>m.length-(intOf i).toNat);(case atStart=>exact⟨0,Nat.zero_le _,rfl,rfl,Below.refl _ _⟩);case round=>
  obtain⟨k,hk,rfl,rfl,hb⟩:=hrel;by_cases hlt:k<m.length
  ·obtain⟨b,o,rfl,hbS,hbl,hok,d0,d1,d2,d3,d4⟩:=seal_at (hs1.to hb) hlt;have hkl:(k:Int)<(m.length:Int):=(by omega);have hG:=gset_lt (m.take k) (fun s hs=>(Hgf.out s (List.mem_of_mem_take hs)).2);have hg2:=Hgf.out m[k] (List.getElem_mem _);have HS:=Lh (gset_succ m k hlt);have HO:=Lh (or_shl (gset (m.take k)) m[k].g hG hg2.1 hg2.2);unfold gOr at HS;obtain⟨hg0,hg1⟩:=hg2;generalize gset (m.take k)=G at*;go_wp2_with fail;go_roundw;(case rel=>exact⟨k+1,by omega,by go_num,by rw[HS.out,←HO.out],hb.alloc hb.size _⟩);case measure=>simp[intOf];omega
  ·go_wp2_with fail;go_ret;exact⟨Qas (by rw[List.take_of_length_le (by omega)]),hbw1.trans (hb.mono hbw1.size)⟩
end Go.Proofs.YtegaapiocihcpaaGreatDoor
namespace Go.Proofs.YtegaapiocihcpaaGreatDoor
open Go.RowKit
attribute [local go_sem ↓] Go.wp_at_zero Go.wp_at_succ
theorem may_any (A:Option Addr)(c n:Nat)(l:List Seal)(gs e v x:Int)(w:World)(hl:Sl w (fun b=>b<w.heap.size) A c l)(hn:l.length=n)(hsz:n≤1048576)(hg:∀s∈l,0≤s.g∧s.g<16):
 Calls Tryz.prog 30 #[.slice A n c,.int .i64 gs,.int .i64 e,.int .i64 v,.int .i64 x] w fun r w'=>r=.returned (.bool (may (gset (l.filter (onP e v x))) gs))∧Below w.heap.size w w':=by
 have Hg:=Lh hg;have Hm:=Lh (may_andn (gset (l.filter (onP e v x))) gs);clear hg;go_enter Tryz.func30,Tryz.ntmps30;go_wp2_with fail;refine(groups_any A c n l e v x w hl hn hsz Hg.out).mono ?_;rintro r w1 ⟨rfl,hb⟩;have Hb:=Lh hb;clear hb;go_wp2_with fail;go_ret;exact⟨Qat Hm.out,Hb.out⟩
end Go.Proofs.YtegaapiocihcpaaGreatDoor
namespace Go.Proofs.YtegaapiocihcpaaGreatDoor
open Go.RowKit
theorem nd_le:∀(k u:Nat),u<10^(k+1)→Lib.nDigits u≤k+1
 |0,u,h=>by rw[Lib.nDigits_small (by simpa using h)];exact Nat.le_refl _
 |k+1,u,h=>by
  by_cases h10:u<10
  ·rw[Lib.nDigits_small h10];omega
  ·rw[Lib.nDigits_big h10];have:=nd_le k (u/10) (by rw[Nat.pow_succ] at h;omega);omega
theorem dec_len (m:Nat)(hm:m≤9223372036854775808):(Lib.decDigits m).length≤19:=by
 rw[Lib.decDigits_length];exact nd_le 18 m (by omega)
def box (n:Int):ByteArray:=⟨(91::(Lib.itoa n++[93])).toArray⟩
theorem itoa_len (n:Int)(hn:I64 n):(Lib.itoa n).length≤20:=by
 unfold Lib.itoa;split
 ·have:=dec_len n.natAbs (by have:=hn.1;omega);simp;omega
 ·have:=dec_len n.toNat (by have:=hn.2;omega);omega
def Qbv (t:TextP):List Word:=(t.a++t.b).flatten
theorem Qd3 (t:TextP):(Qbv t).length=tot (t.a++t.b):=by
 unfold Qbv tot;simp[List.length_flatten]
def seeB (sl:List Seal)(gs e v x:Int):Bool:=may (gset (sl.filter (onP e v x))) gs
def showS (sl:List Seal)(gs e v x:Int)(s:ByteArray):ByteArray:=if seeB sl gs e v x=true then s else box (QaR s)
def noW:Word:=⟨⟨#[]⟩,⟨#[]⟩,0,0⟩
def lineW (sl:List Seal)(gs e v:Int)(ws:List Word)(x:LineP):List ByteArray:=(List.range (x.un-x.fr).toNat).map fun(i:Nat)=>showS sl gs e v (x.fr+(i:Int)) (ws.getD (x.fr.toNat+i) noW).s
def Qeb (l:List ByteArray):ByteArray:=⟨(Lib.join (l.map (·.data.toList)) [32]).toArray⟩
def Qbe (sl:List Seal)(gs e v:Int)(ws:List Word)(x:LineP):ByteArray:=Qeb (lineW sl gs e v ws x)
structure SheetP where
 label:ByteArray
 body:List ByteArray
 notes:List ByteArray
def labS (p:PageP):ByteArray:=labT p.num.toNat p.suf.toNat
def Qc0 (sl:List Seal)(p:PageP)(ws:List Word):SheetP:=⟨labS p,p.body.map (Qbe sl 0 p.entry p.ver ws),p.notes.map (Qbe sl 0 p.entry p.ver ws)⟩
theorem width_bd (s:ByteArray):0≤QaR s∧QaR s≤480:=by
 unfold QaR;have h2:=sumW_bd s.data.toList;have hl:s.data.toList.length=s.size:=by simp
 split
 ·omega
 ·split<;>omega

theorem gbox_any (n:Int)(hn:I64 n)(w:World)(hT:Tabs w):
 Calls Tryz.prog 32 #[.int .i64 n] w fun e w'=>e=.returned (.string (box n))∧Below w.heap.size w w':=by
 have HT:=Lh hT;have hl:=itoa_len n hn;have HB:=Lh (show box n=⟨(91::(Lib.itoa n++[93])).toArray⟩ from rfl);clear hT;go_enter Tryz.func32,Tryz.ntmps32;go_wp2_with fail;refine(Tryz.strconv_Itoa n hn.1 hn.2 _ HT.out.2).mono ?_;rintro e w1 ⟨rfl,k,os,hw⟩;have Hb:=Lh (show Below w.heap.size w w1 by rw[hw];exact Lib.below_grow _ _ nL _ _);clear hw;generalize Lib.itoa n=l at*;have h1:1+l.length≤9223372036854775807:=by omega
 have h2:1+l.length+1≤9223372036854775807:=by omega
 clear hl;go_wp2_with fail;go_ret;exact⟨ret_str (by rw[HB.out];apply ByteArray.ext;simp),Hb.out⟩
theorem i64_width (s:ByteArray):I64 (QaR s):=by
 have:=width_bd s;unfold I64;omega
theorem show_any (A:Option Addr)(c n:Nat)(sl:List Seal)(gs e v x:Int)(s:ByteArray)(p1 p2:Addr)(b3:Nat)(w:World)(hsl:Sl w (fun b=>b<w.heap.size) A c sl)(hn:sl.length=n)(hsz:n≤1048576)(hg:∀s∈sl,0≤s.g∧s.g<16)(hT:Tabs w) (h1:w.cell? p1=some (.slice A n c)) (h2:w.cell? p2=some (.int .i64 gs)) (h3:w.cell? ⟨b3,2,none⟩=some (.int .i64 e)) (h4:w.cell? ⟨b3,3,none⟩=some (.int .i64 v)):
 Calls Tryz.prog 113 #[.int .i64 x,.string s,.pointer (some p1),.pointer (some p2),.pointer (some ⟨b3,0,none⟩)] w fun r w'=>r=.returned (.string (showS sl gs e v x s))∧Below w.heap.size w w':=by
 have HM:=may_any A c n sl gs e v x w hsl hn hsz hg;have HT:=Lh hT;obtain⟨q,hq⟩:∃q,may (gset (sl.filter (onP e v x))) gs=q:=⟨_,rfl⟩;have HS:Hid (showS sl gs e v x s=if q=true then s else box (QaR s)):=Lh (by unfold showS seeB;rw[hq]);rw[hq] at HM;have HM:=Lh HM;clear hT hsl hn hsz hg hq;go_enter Tryz.func113,Tryz.ntmps113;cases q
 ·go_wp2_with (first|(go_at_call 30;refine HM.out.mono ?_;rintro r w1 ⟨rfl,hb⟩;have HB:=Lh hb;clear hb h1 h2 h3 h4)|(go_at_call 33;refine(QeX s _ (HT.out.to HB.out).1).mono ?_;rintro r w2 ⟨rfl,rfl⟩)|(go_at_call 32;refine(gbox_any (QaR s) (i64_width s) _ (HT.out.to HB.out)).mono ?_;rintro r w3 ⟨rfl,hb⟩;have HB3:=Lh (HB.out.trans (hb.mono HB.out.size));clear hb)|fail)
  go_ret;exact⟨ret_str (by rw[HS.out];rfl),HB3.out⟩
 ·go_wp2_with (first|(go_at_call 30;refine HM.out.mono ?_;rintro r w1 ⟨rfl,hb⟩;have HB:=Lh hb;clear hb h1 h2 h3 h4)|fail)
  go_ret;exact⟨ret_str (by rw[HS.out];rfl),HB.out⟩
theorem wp_make0 {P:Program}{o:Oper}{a:Act}{w:World}{K:Act→World→Prop}{Q:Exit→Act→World→Prop}(t:TypeId)(x y:Operand)(ho:o.op=.makeSlice t x y)(e:TypeId)(z:Value)(size bytes:Nat) (ht:P.underlying t=some (.slice e)) (hinfo:(P.info? e).map (fun i=>(i.zero,i.size,i.bytes))=some (some z,size,bytes)) (n:Nat) (hx:a.eval x=.int .i64 0) (hy:a.eval y=.int .i64 (n:Int)) (hb:n*bytes≤140737488355328) (h63:n≤9223372036854775807) (h:K (a.put o.dst (.slice (some ⟨w.heap.size,0,none⟩) 0 n)) (w.alloc (.cells (madeCells z.cells (n*size)) e))):o.wp P a w K Q:=by
 obtain⟨i,hi,hz,hsz,hbz⟩:=info_parts hinfo;have hb':(i.bytes:Int)*(n:Int)≤281474976710656:=by
  rw[hbz];have h:((bytes*n:Nat):Int)≤281474976710656:=(by rw[Nat.mul_comm];omega);rwa [Int.natCast_mul] at h
 have hr:=run_make (P:=P) w t e i z ht hi hz .i64 .i64 0 n (by omega) (by omega) hb' (by omega);simp only[Int.toNat_natCast,hsz] at hr;unfold Oper.wp execOp;simp only[ho,hx,hy,Sem.run_bind,hr,Result.andThen_ok,Sem.run_pure];exact h
theorem wpList_make0 {P:Program}{ops:Array Oper}{rest:List Oper}{o:Oper}{a:Act}{w:World}{Q:Exit→Act→World→Prop}(hgd:o.guard=none)(t:TypeId)(x y:Operand)(ho:o.op=.makeSlice t x y)(e:TypeId)(z:Value)(size bytes:Nat) (ht:P.underlying t=some (.slice e)) (hinfo:(P.info? e).map (fun i=>(i.zero,i.size,i.bytes))=some (some z,size,bytes)) (n:Nat) (hx:a.eval x=.int .i64 0) (hy:a.eval y=.int .i64 (n:Int)) (hb:n*bytes≤140737488355328) (h63:n≤9223372036854775807) (h:wpList P ops Q rest (a.put o.dst (.slice (some ⟨w.heap.size,0,none⟩) 0 n)) (w.alloc (.cells (madeCells z.cells (n*size)) e))):wpList P ops Q (o::rest) a w:=
 wpList_plain hgd fun _ hK=>wp_make0 t x y ho e z size bytes ht hinfo n hx hy hb h63 (hK _ _ h)
theorem own_made0 {α:Type}[Rep α](w:World)(base n:Nat)(e:TypeId)(z:Value)(hb:base≤w.heap.size)(hn:n≤maxLen):Own (α:=α) (w.alloc (.cells (madeCells z.cells (n*Rep.size α)) e)) base e (.slice (some ⟨w.heap.size,0,none⟩) 0 n) []:=by
 refine⟨[],⟨by simp,.inr ⟨w.heap.size,_,_,rfl,hb,heap_alloc_new w _,by simp,hn,?_,by simp⟩⟩,by simp,fun i h=>absurd h (by simp)⟩;unfold madeCells;simp
theorem Qev {w:World}{base:Nat}{e:TypeId}{v:Value}{l:List ByteArray}(h:Own w base e v l):∃A c,v=.slice A l.length c∧Sl w (fun b=>base≤b) A c l:=by
 obtain⟨A,c,e1,h1,-⟩:=h.form;obtain⟨A',c',e2,hs⟩:=h.sl;rw[e1] at e2;cases e2;refine⟨A,c,e1,hs.1,hs.2.1,fun hn=>?_⟩;obtain⟨b,o,hA,-,hlt,hx⟩:=hs.2.2 hn;exact⟨b,o,hA,(h1 _ hA).1,hlt,fun i hi=>hx i hi⟩
def QaZ (sl:List Seal)(gs e v:Int)(ws:List Word)(f j:Nat):List ByteArray:=(List.range (j-f)).map fun(i:Nat)=>showS sl gs e v ((f:Int)+(i:Int)) (ws.getD (f+i) noW).s
theorem lineTo_succ {sl:List Seal}{gs e v:Int}{ws:List Word}{f j:Nat}(h:f≤j)(hj:j<ws.length):QaZ sl gs e v ws f (j+1)=QaZ sl gs e v ws f j++[showS sl gs e v (j:Int) ws[j].s]:=by
 unfold QaZ;rw[show j+1-f=(j-f)+1 by omega,List.range_succ,List.map_append];simp only[List.map_cons,List.map_nil];rw[show(f:Int)+((j-f:Nat):Int)=(j:Int) by omega,show f+(j-f)=j by omega,List.getD_eq_getElem?_getD,qG hj];rfl
theorem QcB {sl:List Seal}{gs e v:Int}{ws:List Word}{f j:Nat}:(QaZ sl gs e v ws f j).length=j-f:=by unfold QaZ;simp
theorem lineW_to (sl:List Seal)(gs e v:Int)(ws:List Word)(f u:Nat)(ga no:List Int):lineW sl gs e v ws ⟨f,u,ga,no⟩=QaZ sl gs e v ws f u:=by
 unfold lineW QaZ;rw[show((u:Int)-(f:Int)).toNat=u-f by omega];rfl
theorem show_size (sl:List Seal)(gs e v x:Int)(s:ByteArray)(hs:s.size≤1000):(showS sl gs e v x s).size≤1000:=by
 unfold showS;split
 ·exact hs
 ·have:=itoa_len (QaR s) (i64_width s);unfold box;show(91::(Lib.itoa (QaR s)++[93])).toArray.size≤1000;simp;omega
theorem QcR {sl:List Seal}{gs e v:Int}{ws:List Word}(hws:∀y∈ws,y.s.size≤1000){f j:Nat}(hj:j≤ws.length):∀z∈QaZ sl gs e v ws f j,z.size≤1000:=by
 unfold QaZ;intro z hz;obtain⟨i,hi,rfl⟩:=List.mem_map.1 hz;rw[List.mem_range] at hi;refine show_size _ _ _ _ _ _ ?_;rw[List.getD_eq_getElem?_getD,qG (by omega),Option.getD_some];exact hws _ (List.getElem_mem _)
theorem join_len (q:List UInt8)(hq:q.length=1):∀(l:List (List UInt8)),(∀z∈l,z.length≤1000)→(Lib.join l q).length≤1001*l.length
 |[],_=>by simp[Lib.join]
 |[x],h=>by
  have:=h x (by simp);rw[Lib.join_one];simp;omega
 |x::y::r,h=>by
  have h1:=h x (by simp);have h2:=join_len q hq (y::r) (fun z hz=>h z (by simp[hz]));rw[show Lib.join (x::y::r) q=x++q++Lib.join (y::r) q by simp[Lib.join]];rw[qA,qA,hq];simp only[qC] at h2 ⊢;omega
set_option maxRecDepth 100000 in
theorem set_line (Aw:Option Addr)(cw nw:Nat)(ws:List Word)(A:Option Addr)(c n:Nat)(sl:List Seal)(gs e v:Int)(f u:Nat)(Ag An:Option Addr)(ng cg nn cn:Nat)(p1 p2:Addr)(b3:Nat)(w:World) (hws:Sl w (fun b=>b<w.heap.size) Aw cw ws) (hwn:ws.length=nw) (hw6:nw≤1048576) (hw1:∀y∈ws,y.s.size≤1000) (hsl:Sl w (fun b=>b<w.heap.size) A c sl) (hn:sl.length=n) (hsz:n≤1048576) (hg:∀s∈sl,0≤s.g∧s.g<16) (hT:Tabs w) (h1:w.cell? p1=some (.slice A n c)) (h2:w.cell? p2=some (.int .i64 gs)) (h3:w.cell? ⟨b3,2,none⟩=some (.int .i64 e)) (h4:w.cell? ⟨b3,3,none⟩=some (.int .i64 v)) (hfu:f<u) (hu:u≤nw):
 Calls Tryz.prog 60 #[.agg #[.slice Aw nw cw,.func (.func 113) #[] #[.pointer (some p1),.pointer (some p2),.pointer (some ⟨b3,0,none⟩)]],.agg #[.int .i64 f,.int .i64 u,.slice Ag ng cg,.slice An nn cn]] w fun r w'=>r=.returned (.string (Qeb (QaZ sl gs e v ws f u)))∧Below w.heap.size w w':=by
 obtain⟨wb,hwb⟩:∃wb,(w.alloc (.cells #[.slice Aw nw cw,.func (.func 113) #[] #[.pointer (some p1),.pointer (some p2),.pointer (some ⟨b3,0,none⟩)]] 113)).alloc (.cells #[.int .i64 f,.int .i64 u,.slice Ag ng cg,.slice An nn cn] 56)=wb:=⟨_,rfl⟩;have hba:Below w.heap.size w wb:=by rw[←hwb];exact(bR.alloc nL _).alloc (by simp) _
 have hx0:ABox wb w.heap.size 113 [.slice Aw nw cw,.func (.func 113) #[] #[.pointer (some p1),.pointer (some p2),.pointer (some ⟨b3,0,none⟩)]]:=by rw[←hwb];exact(Below.heap_alloc _ _ _ (by simp)).trans (heap_alloc_new w _)
 have hx1:ABox wb (w.heap.size+1) 56 [.int .i64 f,.int .i64 u,.slice Ag ng cg,.slice An nn cn]:=by rw[←hwb];exact Qai (by simp)
 have HWS:=Lh (hws.to hba);have HWN:=Lh hwn;have HW1:=Lh hw1;have HBA:=Lh hba;have HX0:=Lh hx0;have HX1:=Lh hx1;have hb1:=World.block_lt_of_cell? w p1 h1;have hb2:=World.block_lt_of_cell? w p2 h2;have hb3:=World.block_lt_of_cell? w _ h3
 have HSH:Hid (∀(W:World) (x:Int) (s:ByteArray),Below wb.heap.size wb W→Calls Tryz.prog 113 #[.int .i64 x,.string s,.pointer (some p1),.pointer (some p2),.pointer (some ⟨b3,0,none⟩)] W fun r w'=>r=.returned (.string (showS sl gs e v x s))∧Below W.heap.size W w'):=Lh fun W x s hW=>
  have hh:Below w.heap.size w W:=hba.trans (hW.mono hba.size)
  show_any A c n sl gs e v x s p1 p2 b3 W (hsl.to hh) hn hsz hg (hT.to hh) ((hh.cell (p:=p1) hb1).trans h1) ((hh.cell (p:=p2) hb2).trans h2) ((hh.cell (p:=⟨b3,2,none⟩) hb3).trans h3) ((hh.cell (p:=⟨b3,3,none⟩) hb3).trans h4)
 have hfI:(f:Int)≤(u:Int):=by omega
 have hd:(u:Int)-(f:Int)=((u-f:Nat):Int):=by omega
 have HD:Hid (u-f≤1048576):=Lh (by omega);have hd2:u-f≤1048576:=HD.out;have hfn:f≤1048576:=by omega
 have hun:u≤1048576:=by omega
 have HUN:=Lh hu;have HFU:Hid (f≤u):=Lh (Nat.le_of_lt hfu);have HFS:=Lh hfu;clear hws hwn hw1 hsl hn hsz hg hT h1 h2 h3 h4 hb1 hb2 hb3 hba hx0 hx1 hu;go_enter Tryz.func60,Tryz.ntmps60;go_upto_region 1 with(fail);(try rw[hwb]);clear hwb;have y0:=HX1.out.cell 0 rfl;have y1:=HX1.out.cell 1 rfl
 go_upto_region 2 with(first|(refine wpList_make0 rfl 44 (.const (.int .i64 0)) (.tmp 11) rfl 9 (.string ⟨#[]⟩) 1 16 Tryz.underlying44 Qd2 (u-f) rfl (by first|rfl|(rw[←hd];rfl)) (by omega) (by omega) ?_)|fail)
 obtain⟨wm,hwm⟩:∃wm,wb.alloc (.cells (madeCells #[.string ⟨#[]⟩] (u-f)) 9)=wm:=⟨_,rfl⟩;have HO:Hid (Own wm wb.heap.size 9 (.slice (some ⟨wb.heap.size,0,none⟩) 0 (u-f)) ([]:List ByteArray)):=Lh (by rw[←hwm];have h:=own_made0 (α:=ByteArray) wb wb.heap.size (u-f) 9 (.string ⟨#[]⟩) nL (by have:=HD.out;unfold maxLen;omega);rw[show(u-f)*Rep.size ByteArray=u-f from Nat.mul_one _] at h;exact h);have HBM:Hid (Below wb.heap.size wb wm):=Lh (by rw[←hwm];exact bR.alloc nL _);rw[hwm];clear hwm y0 y1;have y0:=(HX1.out.to HBM.out).cell 0 rfl;go_wp2_with fail;go_loopw [5,6] (fun v5 v6 wr=>∃j:Nat,v6=.int .i64 (j:Int)∧f≤j∧j≤u∧Hid (Own wr wb.heap.size 9 v5 (QaZ sl gs e v ws f j))∧Hid (Below wb.heap.size wb wr)) (fun _ v6 _=>u-(intOf v6).toNat);(case atStart=>exact⟨f,rfl,Nat.le_refl _,HFU.out,Lh (by unfold QaZ;rw[Nat.sub_self];exact HO.out),HBM⟩);case round=>
  clear HO HBM y0;obtain⟨j,rfl,hfj,hju,HO,HB⟩:=hrel;have y1:=(HX1.out.to HB.out).cell 1 rfl;by_cases hlt:j<u
  ·have hjI:(j:Int)<(u:Int):=by omega
   have hjw:j<ws.length:=(by rw[HWN.out];have:=HUN.out;omega);obtain⟨bw,ow,rfl,-,hbw,-,k0,-,-,-⟩:=Qdt HWS.out hjw;obtain⟨z,hz⟩:∃z,showS sl gs e v (j:Int) ws[j].s=z:=⟨_,rfl⟩;obtain⟨s0,hs0⟩:∃s0,ws[j].s=s0:=⟨_,rfl⟩;have HSU:=Lh (lineTo_succ (sl:=sl) (gs:=gs) (e:=e) (v:=v) hfj hjw);rw[hz] at HSU;rw[hs0] at hz k0;have HZ:=Lh hz;obtain⟨L,hL⟩:∃L,QaZ sl gs e v ws f j=L:=⟨_,rfl⟩;have HLL:=Lh hL;have hLn:L.length=j-f:=(by rw[←hL];exact QcB);rw[hL] at HO HSU;have HLN:Hid (L.length≤1048576):=Lh (by have:=HD.out;omega);have HZS:Hid (z.size≤1000):=Lh (by rw[←hz,←hs0];exact show_size _ _ _ _ _ _ (HW1.out _ (List.getElem_mem hjw)));obtain⟨A5,c5,rfl,-⟩:=HO.out.form;clear hz hs0 hL hLn;go_upto_region 5 with(fail);refine Qap [10,11] (fun i=>if i=10 then SP.val (.string z) else if i=11 then SP.own wr.heap.size 9 [z] else SP.any) 12 (by kernel_rfl) (by kernel_rfl) ?_;intro T _ g hg hgm;have x0:∀d,(g d).cell? ⟨w.heap.size,0,none⟩=some (.slice (some ⟨bw,ow,none⟩) nw cw):=fun d=>((HX0.out.to HB.out).to (hg d)).cell 0 rfl
   have x1:∀d,(g d).cell? ⟨w.heap.size,1,none⟩=some (.func (.func 113) #[] #[.pointer (some p1),.pointer (some p2),.pointer (some ⟨b3,0,none⟩)]):=fun d=>((HX0.out.to HB.out).to (hg d)).cell 1 rfl
   have a0:∀d,(g d).cell? ⟨bw,ow+j*4,none⟩=some (.string s0):=fun d=>((HB.out.trans ((hg d).mono HB.out.size)).cell (p:=⟨bw,ow+j*4,none⟩) hbw).trans k0
   have hjn:(j:Int)<(nw:Int):=(by have:=HUN.out;omega);(repeat(refine Qao (by rfl) fun Kq hq=>?_;go_big_quiet_step (fail);refine wpQuiet_nil (hq _ ?_);clear hq Kq));refine QaG (by rfl) (by rfl) (fun d hG K Q hK=>?_) (fun v9 d hG hp Kr hr=>?_)
   ·go_simp;go_at_call 113;refine(HSH.out (g d) (j:Int) s0 (HB.out.trans ((hg d).mono HB.out.size))).mono ?_;rintro r V1 ⟨rfl,hb1⟩;go_simp;exact hK _ _ hb1 (by show Value.string _=Value.string _;rw[HZ.out])
   have hp:v9=.string z:=hp;subst hp;(try clear hp);clear hG;go_frame;refine hr _ ?_;clear hr Kr;(repeat(refine Qao (by rfl) fun Kq hq=>?_;go_big_quiet_step (fail);refine wpQuiet_nil (hq _ ?_);clear hq Kq));refine QaG (by rfl) (by rfl) (fun d hG K Q hK=>?_) (fun v9 d hG hp Kr hr=>?_)
   ·go_simp;refine hK _ _ (bR.alloc nL _) (show Own _ _ _ _ _ from ?_);refine Own.lit (α:=ByteArray) (g d) wr.heap.size 9 #[.string z] [z] (hg d).size (by simp[maxLen]) rfl (by intro u hu;simp at hu;rcases hu with rfl;rfl) (fun i hi=>?_);obtain rfl:i=0:=by simp at hi;exact hi
    exact⟨rfl,by have:=HZS.out;unfold maxLen;show z.size≤_;omega⟩
   obtain⟨A9,c9,rfl,-⟩:=(show Own (g d) wr.heap.size 9 v9 [z] from hp).form;(try clear hp);clear hG;go_frame;refine hr _ ?_;clear hr Kr;(repeat(refine Qao (by rfl) fun Kq hq=>?_;go_big_quiet_step (fail);refine wpQuiet_nil (hq _ ?_);clear hq Kq));refine QbZ 2 (by rfl) (by rfl) (fun d hG=>?_);have H9:Hid (Own (g d) wr.heap.size 9 (.slice A9 1 c9) [z]):=Lh (hG 11);have HOd:=Lh (HO.out.below (hg d));have HBd:=Lh (HB.out.trans ((hg d).mono HB.out.size));have HSZ:Hid (wr.heap.size≤(g d).heap.size):=Lh (hg d).size;have HLT:=Lh HO.out.lt;clear hG hg hgm x0 x1 a0;generalize g d=wx at*;clear g
   have HS9:Hid (Sl wx (fun b=>wr.heap.size≤b) A9 c9 [z]):=Lh (by
    obtain⟨A,c,e,hs⟩:=Qev H9.out
    cases e
    exact hs)
   refine QaN (i:=12) (oi:=_) rfl (by kernel_rfl) (by rfl) (fun K hK=>?_);refine wp_cat (α:=ByteArray) _ (.tmp 21) (.tmp 32) 44 rfl wb.heap.size 9 (.string ⟨#[]⟩) 16 Tryz.underlying44 Qd2 rfl (show 0<1 by decide) _ L rfl HOd.out A9 c9 1 [z] rfl rfl (fun b=>wr.heap.size≤b) HS9.out (fun i (hi:wr.heap.size≤i) _ e=>by have:=(HLT.out i e.symm).2;omega) (by have:=HLN.out;omega) (by have:=HLN.out;omega) (by have:=HBd.out.size;omega) ?_;intro v' w' ho' hg' hv';have HON:Hid (Own w' wb.heap.size 9 v' (QaZ sl gs e v ws f (j+1))):=Lh (by rw[HSU.out];exact ho');have HBN:Hid (Below wb.heap.size wb w'):=Lh (HBd.out.grown hg' HBd.out.size (fun j hj=>(HLT.out j hj).1));refine hK _ _ ?_;clear hK K ho' hg' hv' HOd HS9 H9;(try simp only[Act.put,sA0]);refine QaN (i:=13) (oi:=_) rfl (by kernel_rfl) (by rfl) (fun K hK=>?_);go_simp;refine hK _ _ ?_;clear hK K;(try go_frame);refine wpAny_done (by kernel_rfl) ?_ _;unfold Exit.then;go_wp2_with fail;go_roundw;(case rel=>exact⟨j+1,by go_num,by omega,by omega,HON,HBN⟩);case measure=>(first|(simp[intOf];done)|(simp[intOf];omega))
  ·obtain rfl:j=u:=by omega
   have hjI:¬(j:Int)<(j:Int):=(by omega);obtain⟨L,hL⟩:∃L,QaZ sl gs e v ws f j=L:=⟨_,rfl⟩;have HLL:=Lh hL;have hLn:L.length=j-f:=(by rw[←hL];exact QcB);have hLs:∀z∈L,z.size≤1000:=(by rw[←hL];exact QcR HW1.out (by rw[HWN.out];exact HUN.out));rw[hL] at HO;have HLN0:Hid (L.length≤1048576):=Lh (by have:=HD.out;omega)
   have HJN:Hid (Calls Tryz.prog 115 #[u5,.string ⟨#[32]⟩] wr fun e w'=>e=.returned (.string (Qeb L))∧Below wr.heap.size wr w'):=Lh (by
    obtain⟨A5,c5,rfl,hs5⟩:=HO.out.sl
    have hlen:(Lib.join (L.map (·.data.toList)) [32]).length≤140737488355328:=by
     have:=join_len [32] rfl (L.map (·.data.toList)) (fun q hq=>by
      obtain⟨z,hz,rfl⟩:=List.mem_map.1 hq
      have:=hLs z hz
      simpa using this)
     rw[qM] at this
     have:=HD.out
     omega
    cases L with
    |nil=>exact absurd hLn (by have:=HFS.out;simp;omega)
    |cons z0 L0=>
     obtain⟨b5,o5,hA5,-,hb5,hx5⟩:=hs5.2.2 (by simp)
     subst hA5
     exact Tryz.strings_Join b5 o5 c5 (z0::L0) ⟨#[32]⟩ wr (fun i y hy=>by
      obtain⟨hi,hy2⟩:=List.getElem?_eq_some_iff.1 hy
      obtain⟨es,⟨he,-⟩,hc⟩:=hx5 i hi
      have:=hc 0 (.string (z0::L0)[i]) (by rw[he];rfl)
      rw[hy2] at this
      simpa[Rep.size] using this) hb5 (by have:=HLN0.out;omega) hs5.1 hlen)
   clear hL hLn hLs
   go_wp2_with (first|(go_at_call 115;refine HJN.out.mono ?_;rintro r w2 ⟨rfl,hb⟩;have HB2:=Lh (HB.out.trans (hb.mono HB.out.size));clear hb)|fail)
   go_ret;exact⟨by rw[HLL.out];rfl,HBA.out.trans (HB2.out.mono HBA.out.size)⟩
end Go.Proofs.YtegaapiocihcpaaGreatDoor
namespace Go.Proofs.YtegaapiocihcpaaGreatDoor
open Go.Shelf
def QeW:Go.Shelf.Ren:=⟨fun|4=>168|n=>n,fun|22=>110|25=>66|3=>3|4=>4|9=>9|20=>20 |0=>0|n=>n,fun|n=>n⟩
theorem growV:Go.Proofs.Lays8.n4 Tryz.prog QeW:={
 mixed:=by kernel_rfl
 f4:=⟨Tryz.f168.name,by decide,Tryz.func168.trans (congrArg some (by kernel_rfl))⟩
 t0:=Tryz.underlying0
 a0:=Tryz.isAgg0
 z0:=Tryz.sizeOf0
 v0:=Tryz.zeroValue0
 t3:=Tryz.underlying3
 a3:=Tryz.isAgg3
 z3:=Tryz.sizeOf3
 v3:=Tryz.zeroValue3
 t4:=Tryz.underlying4
 a4:=Tryz.isAgg4
 z4:=Tryz.sizeOf4
 v4:=Tryz.zeroValue4
 t9:=Tryz.underlying9
 a9:=Tryz.isAgg9
 z9:=Tryz.sizeOf9
 v9:=Tryz.zeroValue9
 t20:=Tryz.underlying20
 a20:=Tryz.isAgg20
 z20:=Tryz.sizeOf20
 v20:=Tryz.zeroValue20
 t22:=Tryz.underlying110
 a22:=Tryz.isAgg110
 z22:=Tryz.sizeOf110
 v22:=Tryz.zeroValue110}
end Go.Proofs.YtegaapiocihcpaaGreatDoor
namespace Go.Proofs.YtegaapiocihcpaaGreatDoor
open Go.RowKit Go.Shelf
theorem grow_nilV (n:Nat)(w:World)(hn:n≤4194304):
 Calls Tryz.prog 168 #[.slice none 0 0,.int .i64 (n:Int)] w fun e w'=>∃v,e=.returned v∧Own w' w.heap.size 66 v ([]:List Word)∧Below w.heap.size w w':=by
 by_cases h0:n=0
 ·subst h0;exact(Any8.slices_Grow_room growV none 0 0 0 w (by omega) (by omega) (by omega) (by omega)).mono fun e w' ⟨he,hw⟩=>⟨_,he,Own.nil _ _ _,by rw[hw];exact Below.refl _ _⟩
 ·obtain⟨i,hi,hz,hz1,hz2⟩:=info_parts word_infoW;have h1:=grownCap_ge w (0+n) 0 (QeW.t 25);have h2:=grownCap_le_maxLen w (0+n) 0 (QeW.t 25) (by unfold maxLen;omega);refine(Any8.slices_Grow_grow growV i (.agg #[.string ⟨#[]⟩,.string ⟨#[]⟩,.int .i64 0,.int .i64 0]) hi hz (by rw[hz1];decide) none 0 0 n [] w (by omega) (by omega) (by rw[hz2];omega) (by omega) (by simp) (fun _=>rfl) (fun a h=>by cases h)).mono ?_;rintro e w' ⟨he,rfl⟩;refine⟨_,he,⟨[],⟨by simp,.inr ⟨w.heap.size,_,_,rfl,Nat.le_refl _,heap_alloc_new w.drew _,by simp,h2,?_,by simp⟩⟩,by simp,fun i h=>absurd h (by simp)⟩,?_⟩
  ·have e:(Value.agg #[.string ⟨#[]⟩,.string ⟨#[]⟩,.int .i64 0,.int .i64 0]).cells.size=4:=rfl;simp only[Array.size_append,size_zeroCells,e];show 0+(0+n-0)*4+(_-(0+n))*4=_*4;omega
  ·exact(bR.drew).alloc nL _
theorem Qc6 (ll:List (List Word)){k:Nat}(hk:k<ll.length):tot (ll.take (k+1))=tot (ll.take k)+ll[k].length:=by
 rw[qT hk,Qbd];unfold tot;simp
theorem QcV (ll:List (List Word))(k:Nat):tot (ll.take k)≤tot ll:=by
 have h:tot ll=tot (ll.take k)+tot (ll.drop k):=by rw[←Qbd,List.take_append_drop]
 omega
theorem flat_take_succ (ll:List (List Word)){k:Nat}(hk:k<ll.length):(ll.take (k+1)).flatten=(ll.take k).flatten++ll[k]:=by
 rw[qT hk,List.flatten_append];simp only[List.flatten_cons,List.flatten_nil,List.append_nil]
theorem flat_tot (ll:List (List Word)):ll.flatten.length=tot ll:=by
 unfold tot;simp[List.length_flatten]
theorem concatV_any (A:Option Addr)(c n:Nat)(ll:List (List Word))(w:World)(hl:Sl w (fun b=>b<w.heap.size) A c ll)(hn:ll.length=n)(hsz:n≤1048576)(ht:tot ll≤1048576):
 Calls Tryz.prog 116 #[.slice A n c] w fun e w'=>∃v,e=.returned v∧Own w' w.heap.size 66 v ll.flatten∧Below w.heap.size w w':=by
 have HL:=Lh hl;have HN:=Lh hn;have HT:=Lh ht;have hnc:n≤c:=by rw[←hn];exact hl.1
 have hcm:c≤9223372036854775807:=hl.2.1;clear hl hn;go_enter Tryz.func116,Tryz.ntmps116;go_wp2_with fail;go_loop [3,5,11] (fun s _ i=>∃k:Nat,k≤n∧i=.int .i64 k∧s=.int .i64 ((tot (ll.take k):Nat):Int)) (fun _ _ i=>n-(intOf i).toNat);(case atStart=>exact⟨0,Nat.zero_le _,rfl,rfl⟩);case round=>
  obtain⟨k,hk,rfl,rfl⟩:=hrel;by_cases hlt:k<n
  ·have hkl:k<ll.length:=by rw[HN.out];exact hlt
   obtain⟨b,o,es,rfl,-,-,⟨A1,c1,rfl,-,hlen⟩,hc⟩:=HL.out.at_ hkl;have h0:=hc 0 _ rfl;have hz:o+k*Rep.size (List Word)+0=o+k:=(by simp[Rep.size]);rw[hz] at h0;have hs:=Qc6 ll hkl;have hle:=QcV ll (k+1);have HT1:=HT.out;have HS:=Lh hs;obtain⟨s,hsv⟩:∃s,tot (ll.take k)=s:=⟨_,rfl⟩;obtain⟨q,hqv⟩:∃q,ll[k].length=q:=⟨_,rfl⟩;rw[hsv,hqv] at hs HS;rw[hqv] at h0;rw[hsv];have hkI:(k:Int)<(n:Int):=(by omega);have hq:q≤1048576:=(by omega);have hs2:s≤1048576:=(by omega);have hneg:¬(s:Int)+(q:Int)<0:=(by omega);clear hc hz hs hle HT1 hsv hqv hlen;go_wp2_with fail;go_round;(case rel=>exact⟨k+1,by omega,by go_num,by rw[HS.out];go_num⟩);case measure=>simp[intOf];omega
  ·obtain rfl:k=n:=by omega
   have e:ll.take k=ll:=List.take_of_length_le (by rw[HN.out];exact Nat.le_refl _);rw[e];obtain⟨s,hsv⟩:∃s,tot ll=s:=⟨_,rfl⟩;have HSV:=Lh hsv;rw[hsv] at HT ⊢;have HT1:=HT.out;have hkI:¬(k:Int)<(k:Int):=(by omega);have HG:=Lh (grow_nilV s w (by omega));clear e hsv
   go_wp2_with (first|(go_at_call 168;refine HG.out.mono ?_;rintro e wG ⟨v,rfl,ho,hb⟩;have HO:=Lh ho;have HB:=Lh hb;clear ho hb)|fail)
   go_loopw [6,8,27] (fun v _ i wr=>∃j:Nat,j≤k∧i=.int .i64 j∧Hid (Own wr w.heap.size 66 v (ll.take j).flatten)∧Hid (Below w.heap.size w wr)) (fun _ _ i _=>k-(intOf i).toNat);(case atStart=>exact⟨0,Nat.zero_le _,rfl,HO,HB⟩);case round=>
    clear HO HB;obtain⟨j,hj,rfl,HO,HB⟩:=hrel;by_cases hjl:j<k
    ·have hkl:j<ll.length:=by rw[HN.out];exact hjl
     obtain⟨b,o,es,rfl,-,hbl,⟨A1,c1,rfl,hw,hlen⟩,hc⟩:=HL.out.at_ hkl;have h0:=hc 0 _ rfl;have hz:o+j*Rep.size (List Word)+0=o+j:=(by simp[Rep.size]);rw[hz] at h0;have h1:=(HB.out.cell (p:=⟨b,o+j,none⟩) hbl).trans h0;have HF:=Lh (flat_take_succ ll hkl);have hle:=QcV ll j;have hle2:=QcV ll (j+1);have hs:=Qc6 ll hkl;obtain⟨q,hqv⟩:∃q,ll[j].length=q:=⟨_,rfl⟩;obtain⟨L,hL⟩:∃L,(ll.take j).flatten=L:=⟨_,rfl⟩;have hLl:L.length=tot (ll.take j):=(by rw[←hL];exact flat_tot _);rw[hL] at HO;have HLL:=Lh hL;rw[hqv] at h1 hs;have hb1:(L.length+q)*48≤140737488355328:=(by have:=HT.out;have:=HSV.out;omega);have hb2:L.length+q≤9223372036854775807:=(by omega);have HB1:=Lh hb1;have HB2:=Lh hb2;have HQ:=Lh hqv;have HW:=Lh (hw.mono (S':=fun b=>b<w.heap.size) (fun i hi _=>hi));obtain⟨A2,c2,rfl,-⟩:=HO.out.form;have hjI:(j:Int)<(k:Int):=(by omega);have hz3:=HB.out.size;clear hc hz h0 hle hle2 hs hL hqv hw hlen hb1 hb2 hLl
     go_wp2_with (first|(at_builtin;refine QaC (α:=Word) _ rfl (.tmp 31) (.tmp 32) 110 rfl w.heap.size 66 (.agg #[.string ⟨#[]⟩,.string ⟨#[]⟩,.int .i64 0,.int .i64 0]) 48 Tryz.underlying110 word_infoW rfl (by decide) _ L rfl HO.out A1 c1 q ll[j] rfl HQ.out (fun b=>b<w.heap.size) (HW.out.keep (Kept.below HB.out (fun i h=>h)) HB.out.size) (by intro i (hi:i<w.heap.size) _ e;have:=(HO.out.lt i e.symm).1;omega) HB1.out HB2.out hz3 ?_;intro v2 w2 hown2 hg2 hat2;have HON:=Lh hown2;have HBN:=Lh (QaL HB.out HO.out hz3 hg2);clear hown2 hg2 hat2)|fail)
     go_roundw;(case rel=>exact⟨j+1,by omega,by go_num,by rw[HF.out,HLL.out];exact HON,HBN⟩);case measure=>simp[intOf];omega
    ·obtain rfl:j=k:=by omega
     have hjI:¬(j:Int)<(j:Int):=(by omega);go_wp2_with fail;go_ret;exact⟨_,rfl,by have:=HO.out;rwa [List.take_of_length_le (by rw[HN.out];exact Nat.le_refl _)] at this,HB.out⟩
end Go.Proofs.YtegaapiocihcpaaGreatDoor
namespace Go.Proofs.YtegaapiocihcpaaGreatDoor
open Go.RowKit
set_option maxRecDepth 100000 in
theorem vwords_any (Aa Ab:Option Addr)(ca cb:Nat)(a b:List (List Word))(w:World)(ha:Sl w (fun b=>b<w.heap.size) Aa ca a)(hb:Sl w (fun b=>b<w.heap.size) Ab cb b)(hla:a.length≤100)(hlb:b.length≤100)(ht:tot (a++b)≤1048576):
 Calls Tryz.prog 62 #[.agg #[.slice Aa a.length ca,.slice Ab b.length cb]] w fun e W'=>∃v,e=.returned v∧Own W' w.heap.size 66 v (Qbv ⟨a,b⟩)∧Below w.heap.size w W':=by
 obtain⟨wb,hwb⟩:∃wb,w.alloc (.cells #[.slice Aa a.length ca,.slice Ab b.length cb] 36)=wb:=⟨_,rfl⟩;have hba:Below w.heap.size w wb:=by rw[←hwb];exact bR.alloc nL _
 have hx0:ABox wb w.heap.size 36 [.slice Aa a.length ca,.slice Ab b.length cb]:=by rw[←hwb];exact heap_alloc_new w _
 have HA:=Lh (ha.to hba);have HB:=Lh (hb.to hba);have HBA:=Lh hba;have HX0:=Lh hx0;have HT:=Lh ht;have HLA:=Lh hla;have HLB:=Lh hlb;clear ha hb hba hx0 ht hla hlb;go_enter Tryz.func62,Tryz.ntmps62;go_upto_region 1 with(fail);(try rw[hwb]);clear hwb;have y0:=HX0.out.cell 0 rfl;have y1:=HX0.out.cell 1 rfl;have HX2:Hid (ABox (wb.alloc (.cells #[.slice Aa a.length ca,.slice Ab b.length cb] 34)) wb.heap.size 34 [.slice Aa a.length ca,.slice Ab b.length cb]):=Lh (heap_alloc_new wb _);have HB2:Hid (Below wb.heap.size wb (wb.alloc (.cells #[.slice Aa a.length ca,.slice Ab b.length cb] 34))):=Lh (bR.alloc nL _)
 go_wp2_with (first|(go_at_call 74;refine(QdB wb.heap.size Aa Ab ca cb a b _ (HX2.out.cell 0 rfl) (HX2.out.cell 1 rfl) (HA.out.to HB2.out) (HB.out.to HB2.out) (by have:=HLA.out;omega) (by have:=HLB.out;omega)).mono ?_;rintro e w1 ⟨v1,rfl,ho1,hb1⟩;obtain⟨A1,c1,rfl,hs1⟩:=ho1.sl;have HS1:=Lh hs1;have HB3:=Lh (HB2.out.trans (hb1.mono HB2.out.size));clear ho1 hs1 hb1 y0 y1)|(go_at_call 116;refine(concatV_any A1 c1 (a.length+b.length) (a++b) _ HS1.out qA (by have:=HLA.out;have:=HLB.out;omega) HT.out).mono ?_;rintro e w2 ⟨v2,rfl,ho2,hb2⟩;have HO2:=Lh ho2;have HB4:=Lh (HB3.out.trans (hb2.mono HB3.out.size));have HZ3:=Lh HB3.out.size;clear ho2 hb2)|fail)
 go_ret;exact⟨_,rfl,HO2.out.re (Nat.le_trans HBA.out.size HZ3.out),HBA.out.trans (HB4.out.mono HBA.out.size)⟩
theorem own_slW {w:World}{base:Nat}{e:TypeId}{v:Value}{l:List Word}(h:Own w base e v l):∃A c,v=.slice A l.length c∧Sl w (fun b=>base≤b) A c l:=by
 obtain⟨A,c,e1,h1,-⟩:=h.form;obtain⟨A',c',e2,hs⟩:=h.sl;rw[e1] at e2;cases e2;refine⟨A,c,e1,hs.1,hs.2.1,fun hn=>?_⟩;obtain⟨b,o,hA,-,hlt,hx⟩:=hs.2.2 hn;exact⟨b,o,hA,(h1 _ hA).1,hlt,fun i hi=>hx i hi⟩
def SetOf (Aw:Option Addr)(cw nw:Nat)(c1 c2 c3:Value)(sl:List Seal)(gs e v:Int)(ws:List Word)(W':World):Prop:=
 ∀W,Below W'.heap.size W' W→∀(f u:Nat) (Ag An:Option Addr) (ng cg nn cn:Nat),f<u→u≤nw→Calls Tryz.prog 60 #[.agg #[.slice Aw nw cw,.func (.func 113) #[] #[c1,c2,c3]],.agg #[.int .i64 f,.int .i64 u,.slice Ag ng cg,.slice An nn cn]] W fun r w'=>r=.returned (.string (Qeb (QaZ sl gs e v ws f u)))∧Below W.heap.size W w'
set_option maxRecDepth 100000 in
theorem made_any (num suf e v:Int)(Ap Aq:Option Addr)(np cp nq cq:Nat)(Aa Ab:Option Addr)(ca cb:Nat)(a b:List (List Word))(A:Option Addr)(c n:Nat)(sl:List Seal)(gs:Int)(w:World) (ha:Sl w (fun b=>b<w.heap.size) Aa ca a) (hb:Sl w (fun b=>b<w.heap.size) Ab cb b) (hla:a.length≤100) (hlb:b.length≤100) (ht:tot (a++b)≤1048576) (hw1:∀y∈Qbv ⟨a,b⟩,y.s.size≤1000) (hsl:Sl w (fun b=>b<w.heap.size) A c sl) (hn:sl.length=n) (hsz:n≤1048576) (hg:∀s∈sl,0≤s.g∧s.g<16) (hT:Tabs w):
 Calls Tryz.prog 58 #[.agg #[.int .i64 num,.int .i64 suf,.int .i64 e,.int .i64 v,.slice Ap np cp,.slice Aq nq cq],.agg #[.slice Aa a.length ca,.slice Ab b.length cb],.slice A n c,.int .i64 gs] w fun r W'=>∃Aw cw c1 c2 c3,r=.returned (.agg #[.slice Aw (tot (a++b)) cw,.func (.func 113) #[] #[c1,c2,c3]])∧SetOf Aw cw (tot (a++b)) c1 c2 c3 sl gs e v (Qbv ⟨a,b⟩) W'∧Below w.heap.size w W':=by
 obtain⟨wb,hwb⟩:∃wb,((((w.alloc (.cells #[.int .i64 num,.int .i64 suf,.int .i64 e,.int .i64 v,.slice Ap np cp,.slice Aq nq cq] 43)).alloc (.cells #[.slice Aa a.length ca,.slice Ab b.length cb] 36)).alloc (.cells #[.slice A n c] 26)).alloc (.cells #[.int .i64 gs] 3)).alloc (.cells #[.slice none 0 0,.nilFunc] 113)=wb:=⟨_,rfl⟩;have hba:Below w.heap.size w wb:=by rw[←hwb];exact((((bR.alloc nL _).alloc (by simp) _).alloc (by simp;omega) _).alloc (by simp;omega) _).alloc (by simp;omega) _
 have hx0:ABox wb w.heap.size 43 [.int .i64 num,.int .i64 suf,.int .i64 e,.int .i64 v,.slice Ap np cp,.slice Aq nq cq]:=by rw[←hwb];exact(Below.heap_alloc _ _ _ (by first|(simp;done)|(simp;omega))).trans ((Below.heap_alloc _ _ _ (by first|(simp;done)|(simp;omega))).trans ((Below.heap_alloc _ _ _ (by first|(simp;done)|(simp;omega))).trans ((Below.heap_alloc _ _ _ (by simp)).trans (heap_alloc_new w _))))
 have hx1:ABox wb (w.heap.size+1) 36 [.slice Aa a.length ca,.slice Ab b.length cb]:=by rw[←hwb];exact(Below.heap_alloc _ _ _ (by first|(simp;done)|(simp;omega))).trans ((Below.heap_alloc _ _ _ (by first|(simp;done)|(simp;omega))).trans ((Below.heap_alloc _ _ _ (by simp)).trans (Qai (by simp))))
 have hx2:ABox wb (w.heap.size+1+1) 26 [.slice A n c]:=by rw[←hwb];exact(Below.heap_alloc _ _ _ (by first|(simp;done)|(simp;omega))).trans ((Below.heap_alloc _ _ _ (by simp)).trans (Qai (by simp)))
 have hx3:ABox wb (w.heap.size+1+1+1) 3 [.int .i64 gs]:=by rw[←hwb];exact(Below.heap_alloc _ _ _ (by simp)).trans (Qai (by simp))
 have hx4:ABox wb (w.heap.size+1+1+1+1) 113 [.slice none 0 0,.nilFunc]:=by rw[←hwb];exact Qai (by simp)
 have HW:=Lh (vwords_any Aa Ab ca cb a b wb (ha.to hba) (hb.to hba) hla hlb ht);have HSLW:=Lh hsl;have HTW:=Lh hT;have HW1:=Lh hw1;have HG:=Lh hg;have HN:=Lh hn;have HSZ:=Lh hsz;have HTT:=Lh ht;have HBA:=Lh hba;have HX0:=Lh hx0;have HX1:=Lh hx1;have HX2:=Lh hx2;have HX3:=Lh hx3;have HX4:=Lh hx4;clear ha hb hla hlb ht hw1 hsl hn hsz hg hT hba hx0 hx1 hx2 hx3 hx4;go_enter Tryz.func58,Tryz.ntmps58;go_upto_region 1 with(fail);(try rw[hwb]);clear hwb;have y0:=HX1.out.cell 0 rfl;have y1:=HX1.out.cell 1 rfl
 go_wp2_with (first|(go_at_call 62;refine HW.out.mono ?_;rintro r w1 ⟨v1,rfl,ho,hb1⟩;obtain⟨Aw,cw,rfl,hs1⟩:=own_slW ho;rw[show(Qbv ⟨a,b⟩).length=tot (a++b) from Qd3 _];have HS1:=Lh hs1;have HB1:=Lh hb1;have HX41:=Lh (HX4.out.to hb1);clear ho hs1 hb1 y0 y1;have z0:=HX41.out.cell 0 rfl;have z1:=HX41.out.cell 1 rfl;have f0:=HX41.out.fz 0;have f1:=HX41.out.fz 1)|fail)
 obtain⟨WF,hWF⟩:∃WF,(w1.setCell ⟨w.heap.size+1+1+1+1,0,none⟩ (.slice Aw (tot (a++b)) cw)).setCell ⟨w.heap.size+1+1+1+1,1,none⟩ (.func (.func 113) #[] #[.pointer (some ⟨w.heap.size+1+1,0,none⟩),.pointer (some ⟨w.heap.size+1+1+1,0,none⟩),.pointer (some ⟨w.heap.size,0,none⟩)])=WF:=⟨_,rfl⟩;have hxf:ABox WF (w.heap.size+1+1+1+1) 113 [.slice Aw (tot (a++b)) cw,.func (.func 113) #[] #[.pointer (some ⟨w.heap.size+1+1,0,none⟩),.pointer (some ⟨w.heap.size+1+1+1,0,none⟩),.pointer (some ⟨w.heap.size,0,none⟩)]]:=by rw[←hWF];exact(HX41.out.set 0 (.slice Aw (tot (a++b)) cw)).set 1 (.func (.func 113) #[] #[.pointer (some ⟨w.heap.size+1+1,0,none⟩),.pointer (some ⟨w.heap.size+1+1+1,0,none⟩),.pointer (some ⟨w.heap.size,0,none⟩)])
 have hoth:∀i,i≠w.heap.size+1+1+1+1→WF.heap[i]? =w1.heap[i]? :=fun i hi=>by rw[←hWF];rw[Qac _ _ _ _ hi,Qac _ _ _ _ hi]
 have hzf:WF.heap.size=w1.heap.size:=by rw[←hWF];simp
 have hbf:Below w.heap.size w WF:=by rw[←hWF];exact((HBA.out.trans (HB1.out.mono HBA.out.size)).setCell (p:=⟨w.heap.size+1+1+1+1,0,none⟩) (by show w.heap.size≤w.heap.size+1+1+1+1;omega) _).setCell (p:=⟨w.heap.size+1+1+1+1,1,none⟩) (by show w.heap.size≤w.heap.size+1+1+1+1;omega) _
 rw[hWF];have hcl:∀(i q:Nat),i≠w.heap.size+1+1+1+1→WF.cell? ⟨i,q,none⟩=w1.cell? ⟨i,q,none⟩:=fun i q hi=>by unfold World.cell?;rw[hoth i hi]
 have hX0:=HX0.out.to HB1.out;have hX2:=HX2.out.to HB1.out;have hX3:=HX3.out.to HB1.out;have g0:=(hcl (w.heap.size+1+1) 0 (by omega)).trans (hX2.cell 0 rfl);have g1:=(hcl (w.heap.size+1+1+1) 0 (by omega)).trans (hX3.cell 0 rfl);have g2:=(hcl w.heap.size 2 (by omega)).trans (hX0.cell 2 rfl);have g3:=(hcl w.heap.size 3 (by omega)).trans (hX0.cell 3 rfl);have l0:=World.block_lt_of_cell? WF _ g0;have l1:=World.block_lt_of_cell? WF _ g1;have l2:=World.block_lt_of_cell? WF _ g2;have hsw:Sl WF (fun b=>b<WF.heap.size) Aw cw (Qbv ⟨a,b⟩):=(HS1.out.keep (fun i (hi:wb.heap.size≤i) _=>hoth i (by have:=HX4.out.lt;omega)) (by omega)).mono (fun i _ hl=>hl);have hsl2:Sl WF (fun b=>b<WF.heap.size) A c sl:=(HSLW.out.to hbf);have hT2:Tabs WF:=HTW.out.to hbf;refine bodyPost_ret (v:=.agg #[.slice Aw (tot (a++b)) cw,.func (.func 113) #[] #[.pointer (some ⟨w.heap.size+1+1,0,none⟩),.pointer (some ⟨w.heap.size+1+1+1,0,none⟩),.pointer (some ⟨w.heap.size,0,none⟩)]]) (Qbx Tryz.results58 _ _ (w.heap.size+1+1+1+1) _ [.slice Aw (tot (a++b)) cw,.func (.func 113) #[] #[.pointer (some ⟨w.heap.size+1+1,0,none⟩),.pointer (some ⟨w.heap.size+1+1+1,0,none⟩),.pointer (some ⟨w.heap.size,0,none⟩)]] _ rfl hxf Tryz.underlying113 rfl (by kernel_rfl)) rfl ⟨Aw,cw,_,_,_,rfl,?_,hbf⟩;intro W hW f u Ag An ng cg nn cn hfu hu;exact set_line Aw cw (tot (a++b)) (Qbv ⟨a,b⟩) A c n sl gs e v f u Ag An ng cg nn cn ⟨w.heap.size+1+1,0,none⟩ ⟨w.heap.size+1+1+1,0,none⟩ w.heap.size W (hsw.to hW) (Qd3 _) HTT.out HW1.out (hsl2.to hW) HN.out HSZ.out HG.out (hT2.to hW) ((hW.cell (p:=⟨w.heap.size+1+1,0,none⟩) l0).trans g0) ((hW.cell (p:=⟨w.heap.size+1+1+1,0,none⟩) l1).trans g1) ((hW.cell (p:=⟨w.heap.size,2,none⟩) l2).trans g2) ((hW.cell (p:=⟨w.heap.size,3,none⟩) l2).trans g3) hfu hu

theorem joinS_size:∀(L:List ByteArray),(∀z∈L,z.size≤1000)→(Qeb L).size≤1001*L.length:=fun L h=>by
 have:=join_len [32] rfl (L.map (·.data.toList)) (fun q hq=>by
  obtain⟨z,hz,rfl⟩:=List.mem_map.1 hq
  have:=h z hz
  simpa using this)
 rw[qM] at this;unfold Qeb;show((Lib.join (L.map (·.data.toList)) [32]).toArray).size≤_;simpa using this
theorem lineS_to {sl:List Seal}{gs e v:Int}{ws:List Word}{x:LineP}{N:Nat}(hx:InL N x):Qbe sl gs e v ws x=Qeb (QaZ sl gs e v ws x.fr.toNat x.un.toNat):=by
 obtain⟨h0,h1,h2⟩:=hx;obtain⟨fr,un,ga,no⟩:=x;dsimp only at h0 h1 h2 ⊢;obtain⟨f,rfl⟩:=Int.eq_ofNat_of_zero_le h0;obtain⟨u,rfl⟩:=Int.eq_ofNat_of_zero_le (show 0≤un by omega);unfold Qbe;rw[lineW_to];rfl
theorem own_setB {w:World}{base:Nat}{e:TypeId}{v:Value}{l:List ByteArray}(h:Own w base e v l){b:Nat}(hb:b<base)(o:Nat)(u:Value):Own (w.setCell ⟨b,o,none⟩ u) base e v l:=by
 obtain⟨xs,hx,ho,hr⟩:=h;refine⟨xs,⟨hx.1,?_⟩,ho,fun i hi=>hr i hi⟩;rcases hx.2 with hn|⟨g,cap,cur,hv,hbg,hg,rest⟩
 ·exact .inl hn
 ·refine .inr ⟨g,cap,cur,hv,hbg,?_,rest⟩;rw[Qac _ _ _ _ (by omega)];exact hg
structure LpI (V1 W0:World)(X8:Nat)(cs:List Value)(v:Value)(l:List ByteArray)(w:World):Prop where
 bl:Below V1.heap.size V1 w
 kp:∀i,i<W0.heap.size→i≠X8→w.heap[i]? =W0.heap[i]?
 x8:ABox w X8 46 cs
 ow:Own w W0.heap.size 9 v l
 sz:W0.heap.size≤w.heap.size
set_option maxRecDepth 100000 in
theorem sheet_any (num suf:Nat)(e v:Int)(Ap Aq:Option Addr)(cp cq:Nat)(bo no:List LineP)(Aa Ab:Option Addr)(ca cb:Nat)(a b:List (List Word))(A:Option Addr)(c n:Nat)(sl:List Seal)(w:World) (hbo:Sl w (fun b=>b<w.heap.size) Ap cp bo) (hno:Sl w (fun b=>b<w.heap.size) Aq cq no) (hbl:bo.length≤1048576) (hnl:no.length≤1048576) (hin:∀x∈bo++no,InL (tot (a++b)) x) (hla1:1≤num∧num≤16384) (hla2:suf≤16384) (ha:Sl w (fun b=>b<w.heap.size) Aa ca a) (hb:Sl w (fun b=>b<w.heap.size) Ab cb b) (hla:a.length≤100) (hlb:b.length≤100) (ht:tot (a++b)≤1048576) (hw1:∀y∈Qbv ⟨a,b⟩,y.s.size≤1000) (hsl:Sl w (fun b=>b<w.heap.size) A c sl) (hn:sl.length=n) (hsz:n≤1048576) (hg:∀s∈sl,0≤s.g∧s.g<16) (hT:Tabs w):
 Calls Tryz.prog 19 #[.agg #[.int .i64 num,.int .i64 suf,.int .i64 e,.int .i64 v,.slice Ap bo.length cp,.slice Aq no.length cq],.agg #[.slice Aa a.length ca,.slice Ab b.length cb],.slice A n c] w fun r W'=>∃A1 c1 A2 c2,r=.returned (.agg #[.string (labT num suf),.slice A1 bo.length c1,.slice A2 no.length c2])∧Sl W' (Up w.heap.size) A1 c1 (bo.map (Qbe sl 0 e v (Qbv ⟨a,b⟩)))∧Sl W' (Up w.heap.size) A2 c2 (no.map (Qbe sl 0 e v (Qbv ⟨a,b⟩)))∧Below w.heap.size w W':=by
 obtain⟨wb,hwb⟩:∃wb,((w.alloc (.cells #[.int .i64 num,.int .i64 suf,.int .i64 e,.int .i64 v,.slice Ap bo.length cp,.slice Aq no.length cq] 43)).alloc (.cells #[.slice Aa a.length ca,.slice Ab b.length cb] 36)).alloc (.cells #[.string ⟨#[]⟩,.slice none 0 0,.slice none 0 0] 46)=wb:=⟨_,rfl⟩;have hba:Below w.heap.size w wb:=by rw[←hwb];exact((bR.alloc nL _).alloc (by simp) _).alloc (by simp;omega) _
 have hx0:ABox wb w.heap.size 43 [.int .i64 num,.int .i64 suf,.int .i64 e,.int .i64 v,.slice Ap bo.length cp,.slice Aq no.length cq]:=by rw[←hwb];exact(Below.heap_alloc _ _ _ (by first|(simp;done)|(simp;omega))).trans ((Below.heap_alloc _ _ _ (by simp)).trans (heap_alloc_new w _))
 have hx1:ABox wb (w.heap.size+1) 36 [.slice Aa a.length ca,.slice Ab b.length cb]:=by rw[←hwb];exact(Below.heap_alloc _ _ _ (by simp)).trans (Qai (by simp))
 have hx2:ABox wb (w.heap.size+1+1) 46 [.string ⟨#[]⟩,.slice none 0 0,.slice none 0 0]:=by rw[←hwb];exact Qai (by simp)
 have HM:=Lh (made_any num suf e v Ap Aq bo.length cp no.length cq Aa Ab ca cb a b A c n sl 0 wb (ha.to hba) (hb.to hba) hla hlb ht hw1 (hsl.to hba) hn hsz hg (hT.to hba))
 have HZMM:Hid (∀z,(∃f u,Qeb (QaZ sl 0 e v (Qbv ⟨a,b⟩) f u)=z∧u≤tot (a++b))→z.size≤maxLen):=Lh (fun z ⟨f,u,hz,hu⟩=>by
  have h1:=joinS_size (QaZ sl 0 e v (Qbv ⟨a,b⟩) f u) (QcR hw1 (by rw[Qd3];exact hu))
  rw[hz,QcB] at h1
  unfold maxLen
  omega)
 have HBO:=Lh (hbo.to hba);have HNO:=Lh (hno.to hba);have HT:=Lh (hT.to hba);have HIN:=Lh hin;have HBA:=Lh hba;have HX0:=Lh hx0;have HX1:=Lh hx1;have HX2:=Lh hx2;obtain⟨nb,hnb⟩:∃q,bo.length=q:=⟨_,rfl⟩;obtain⟨nn,hnn⟩:∃q,no.length=q:=⟨_,rfl⟩;have HNB:=Lh hnb;have HNN:=Lh hnn;have hbc:nb≤cp:=by rw[←hnb];exact hbo.1
 have hbc2:cp≤9223372036854775807:=hbo.2.1;have hnc:nn≤cq:=by rw[←hnn];exact hno.1
 have hnc2:cq≤9223372036854775807:=hno.2.1;rw[hnb,hnn] at hwb HM HX0;rw[hnb] at hbl;rw[hnn] at hnl;rw[hnb,hnn];clear ha hb hla hlb ht hw1 hsl hn hsz hg hT hba hx0 hx1 hx2 hbo hno hin hnb hnn;go_enter Tryz.func19,Tryz.ntmps19;go_upto_region 1 with(fail);(try rw[hwb]);clear hwb;have y0:=HX0.out.cell 0 rfl;have y1:=HX0.out.cell 1 rfl;have y2:=HX0.out.cell 2 rfl;have y3:=HX0.out.cell 3 rfl;have y4:=HX0.out.cell 4 rfl;have y5:=HX0.out.cell 5 rfl;have z0:=HX1.out.cell 0 rfl;have z1:=HX1.out.cell 1 rfl
 go_upto_region 2 with(first|(go_at_call 58;refine HM.out.mono ?_;rintro r V1 ⟨Aw,cw,c1,c2,c3,rfl,hs,hb1⟩;have HS:=Lh hs;have HB1:=Lh hb1;clear hs hb1 y0 y1 y2 y3 y4 y5 z0 z1)|fail)
 obtain⟨X7,hX7⟩:∃q,V1.heap.size=q:=⟨_,rfl⟩;obtain⟨V2,hV2⟩:∃q,V1.alloc (.cells #[.slice Aw (tot (a++b)) cw,.func (.func 113) #[] #[c1,c2,c3]] 113)=q:=⟨_,rfl⟩;have HB2:Hid (Below V1.heap.size V1 V2):=Lh (by rw[←hV2];exact bR.alloc nL _);have HX7:Hid (ABox V2 X7 113 [.slice Aw (tot (a++b)) cw,.func (.func 113) #[] #[c1,c2,c3]]):=Lh (by rw[←hV2,←hX7];exact heap_alloc_new V1 _);have H7:Hid (V1.heap.size≤X7):=Lh (by omega);rw[hV2,hX7];have hx0:ABox V2 w.heap.size 43 [.int .i64 num,.int .i64 suf,.int .i64 e,.int .i64 v,.slice Ap nb cp,.slice Aq nn cq]:=HX0.out.to (HB1.out.trans (HB2.out.mono HB1.out.size));have y0:=hx0.cell 0 rfl;have y1:=hx0.cell 1 rfl;have HLT:=Lh (ltext_any num suf hla1 hla2 V2 (HT.out.to (HB1.out.trans (HB2.out.mono HB1.out.size))));clear hV2 hX7 hx0
 go_upto_region 3 with(first|(go_at_call 59;refine HLT.out.mono ?_;rintro r V3 ⟨rfl,hb3⟩;have HB3:=Lh hb3;clear hb3 y0 y1)|fail)
 obtain⟨lab,hlab⟩:∃q,labT num suf=q:=⟨_,rfl⟩;have HLAB:=Lh hlab;rw[hlab];obtain⟨X8,hX8⟩:∃q,V3.heap.size=q:=⟨_,rfl⟩;obtain⟨W0,hW0⟩:∃q,V3.alloc (.cells #[.string lab,.slice none 0 0,.slice none 0 0] 46)=q:=⟨_,rfl⟩;have hb4:Below V3.heap.size V3 W0:=by rw[←hW0];exact bR.alloc nL _
 have hx8:ABox W0 X8 46 [.string lab,.slice none 0 0,.slice none 0 0]:=by rw[←hW0,←hX8];exact heap_alloc_new V3 _
 have hb0:Below V1.heap.size V1 W0:=HB2.out.trans ((HB3.out.trans (hb4.mono HB3.out.size)).mono HB2.out.size);have HX70:Hid (ABox W0 X7 113 [.slice Aw (tot (a++b)) cw,.func (.func 113) #[] #[c1,c2,c3]]):=Lh ((HX7.out.to HB3.out).to hb4);have H8:Hid (X7<X8∧X8<W0.heap.size∧V1.heap.size≤X7):=Lh ⟨by have h1:=HX7.out.lt;have h2:=HB3.out.size;omega,hx8.lt,H7.out⟩;have HI0:Hid (LpI V1 W0 X8 [.string lab,.slice none 0 0,.slice none 0 0] (.slice none 0 0) [] W0):=Lh ⟨hb0,fun _ _ _=>rfl,hx8,Own.nil _ _ _,Nat.le_refl _⟩;have HBW0:Hid (Below wb.heap.size wb W0):=Lh (HB1.out.trans (hb0.mono HB1.out.size));rw[hW0,hX8];have y4:W0.cell? ⟨w.heap.size,4,none⟩=some (.slice Ap nb cp):=(HX0.out.to HBW0.out).cell 4 rfl;have HZ0:Hid (W0.heap.size≤W0.heap.size):=Lh nL;have HX7W:=HX70;have HZM:Hid (∀z,(∃f u,Qeb (QaZ sl 0 e v (Qbv ⟨a,b⟩) f u)=z∧u≤tot (a++b))→z.size≤maxLen):=HZMM;clear hlab hX8 hW0 hb4 hx8 hb0;go_wp2_with fail;go_loopw [24] (fun v24 wr=>∃(k:Nat) (v5:Value),v24=.int .i64 (k:Int)∧k≤nb∧Hid (LpI V1 W0 X8 [.string lab,v5,.slice none 0 0] v5 ((bo.take k).map (Qbe sl 0 e v (Qbv ⟨a,b⟩))) wr)) (fun v24 _=>nb-(intOf v24).toNat);(case atStart=>exact⟨0,_,rfl,Nat.zero_le _,HI0⟩);case round=>
  obtain⟨k,v5,rfl,hk,HL⟩:=hrel;by_cases hlt:k<nb
  ·have hkl:k<bo.length:=by rw[HNB.out];exact hlt
   have HBw:Hid (Below wb.heap.size wb wr):=Lh (HB1.out.trans (HL.out.bl.mono HB1.out.size));obtain⟨bl,ol,Ag,cg,An,cn,hAp,-,hbl0,e0,e1,e2,e3,-,-⟩:=Qdr HBO.out hkl;subst hAp;have hIn:=HIN.out bo[k] (by simp[List.getElem_mem]);have HLS:=Lh (lineS_to (sl:=sl) (gs:=0) (e:=e) (v:=v) (ws:=Qbv ⟨a,b⟩) hIn);have HTK:=Lh (qT hkl);obtain⟨x,hx⟩:∃x,bo[k]=x:=⟨_,rfl⟩;rw[hx] at e0 e1 e2 e3 hIn HLS HTK;obtain⟨h0,h1,h2⟩:=hIn;obtain⟨fr,un,ga,no2⟩:=x;dsimp only at h0 h1 h2 e0 e1 e2 e3;obtain⟨f,rfl⟩:=Int.eq_ofNat_of_zero_le h0;obtain⟨u,rfl⟩:=Int.eq_ofNat_of_zero_le (show 0≤un by omega);obtain⟨z,hz⟩:∃z,Qeb (QaZ sl 0 e v (Qbv ⟨a,b⟩) f u)=z:=⟨_,rfl⟩;have HZ:=Lh hz;have HFU:Hid (f<u∧u≤tot (a++b)):=Lh (by omega);have HLS2:Hid (Qbe sl 0 e v (Qbv ⟨a,b⟩) ⟨(f:Int),(u:Int),ga,no2⟩=z):=Lh (by rw[HLS.out,←hz];rfl);have q0:=(HBw.out.cell (p:=⟨bl,ol+k*4,none⟩) hbl0).trans e0;have q1:=(HBw.out.cell (p:=⟨bl,ol+k*4+1,none⟩) hbl0).trans e1;have q2:=(HBw.out.cell (p:=⟨bl,ol+k*4+2,none⟩) hbl0).trans e2;have q3:=(HBw.out.cell (p:=⟨bl,ol+k*4+3,none⟩) hbl0).trans e3;have hkI:(k:Int)<(nb:Int):=(by omega);obtain⟨L,hL⟩:∃L,(bo.take k).map (Qbe sl 0 e v (Qbv ⟨a,b⟩))=L:=⟨_,rfl⟩;have HLL:=Lh hL;have HLN:Hid (L.length≤1048576):=Lh (by rw[←hL,qM,qK];omega);rw[hL] at HL;obtain⟨A5,c5,hv5,-⟩:=HL.out.ow.form;subst hv5;clear hz hx h0 h1 h2 e0 e1 e2 e3 HLS hL;go_upto_region 6 with(fail);obtain⟨Xl,hXl⟩:∃q,wr.heap.size=q:=⟨_,rfl⟩;obtain⟨w2,hw2⟩:∃q,wr.alloc (.cells #[.int .i64 f,.int .i64 u,.slice Ag ga.length cg,.slice An no2.length cn] 56)=q:=⟨_,rfl⟩;have hb2:Below wr.heap.size wr w2:=(by rw[←hw2];exact bR.alloc nL _);have HXl:Hid (ABox w2 Xl 56 [.int .i64 f,.int .i64 u,.slice Ag ga.length cg,.slice An no2.length cn]):=Lh (by rw[←hw2,←hXl];exact heap_alloc_new wr _);have HX82:=Lh (HL.out.x8.to hb2);have HX72:Hid (ABox w2 X7 113 [.slice Aw (tot (a++b)) cw,.func (.func 113) #[] #[c1,c2,c3]]):=Lh (((hb2.block X7 (by have:=H8.out;have:=HL.out.sz;have:=HZ0.out;omega)).trans (HL.out.kp X7 (by have:=H8.out;have:=HZ0.out;omega) (by have:=H8.out;omega))).trans HX7W.out);have HBV2:Hid (Below V1.heap.size V1 w2):=Lh (HL.out.bl.trans (hb2.mono HL.out.bl.size));have HO2:=Lh (HL.out.ow.below hb2);have HSZ2:Hid (W0.heap.size≤wr.heap.size∧wr.heap.size≤w2.heap.size):=Lh ⟨HL.out.sz,hb2.size⟩;have HKP2:Hid (∀i,i<W0.heap.size→i≠X8→w2.heap[i]? =W0.heap[i]?):=Lh (fun i hi h8=>(hb2.block i (by have:=HL.out.sz;omega)).trans (HL.out.kp i hi h8));rw[hw2,hXl];clear hXl hw2 hb2 q0 q1 q2 q3;refine Qap [4,5] (fun i=>if i=4 then SP.val (.string z) else if i=5 then SP.own w2.heap.size 9 [z] else SP.any) 6 (by kernel_rfl) (by kernel_rfl) ?_;intro T _ g hg hgm;have s0:∀d,(g d).cell? ⟨X8,1,none⟩=some (.slice A5 L.length c5):=fun d=>(HX82.out.to (hg d)).cell 1 rfl
   have m0:∀d,(g d).cell? ⟨X7,0,none⟩=some (.slice Aw (tot (a++b)) cw):=fun d=>(HX72.out.to (hg d)).cell 0 rfl
   have m1:∀d,(g d).cell? ⟨X7,1,none⟩=some (.func (.func 113) #[] #[c1,c2,c3]):=fun d=>(HX72.out.to (hg d)).cell 1 rfl
   have l0:∀d,(g d).cell? ⟨Xl,0,none⟩=some (.int .i64 f):=fun d=>(HXl.out.to (hg d)).cell 0 rfl
   have l1:∀d,(g d).cell? ⟨Xl,1,none⟩=some (.int .i64 u):=fun d=>(HXl.out.to (hg d)).cell 1 rfl
   have l2:∀d,(g d).cell? ⟨Xl,2,none⟩=some (.slice Ag ga.length cg):=fun d=>(HXl.out.to (hg d)).cell 2 rfl
   have l3:∀d,(g d).cell? ⟨Xl,3,none⟩=some (.slice An no2.length cn):=fun d=>(HXl.out.to (hg d)).cell 3 rfl
   (repeat(refine Qao (by rfl) fun Kq hq=>?_;go_big_quiet_step (fail);refine wpQuiet_nil (hq _ ?_);clear hq Kq));refine QaG (by rfl) (by rfl) (fun d hG K Q hK=>?_) (fun v9 d hG hp Kr hr=>?_)
   ·go_simp;go_at_call 60;refine(HS.out (g d) (HBV2.out.trans ((hg d).mono HBV2.out.size)) f u Ag An ga.length cg no2.length cn HFU.out.1 HFU.out.2).mono ?_;rintro r w3 ⟨rfl,hb3⟩;go_simp;exact hK _ _ hb3 (by show Value.string _=Value.string _;rw[HZ.out])
   have hp:v9=.string z:=hp;subst hp;(try clear hp);clear hG;go_frame;refine hr _ ?_;clear hr Kr;(repeat(refine Qao (by rfl) fun Kq hq=>?_;go_big_quiet_step (fail);refine wpQuiet_nil (hq _ ?_);clear hq Kq));refine QaG (by rfl) (by rfl) (fun d hG K Q hK=>?_) (fun v9 d hG hp Kr hr=>?_)
   ·go_simp;refine hK _ _ (bR.alloc nL _) (show Own _ _ _ _ _ from ?_);refine Own.lit (α:=ByteArray) (g d) w2.heap.size 9 #[.string z] [z] (hg d).size (by simp[maxLen]) rfl (by intro u hu;simp at hu;rcases hu with rfl;rfl) (fun i hi=>?_);obtain rfl:i=0:=by simp at hi;exact hi
    exact⟨rfl,HZM.out z (by rw[←HZ.out];exact⟨f,u,rfl,HFU.out.2⟩)⟩
   obtain⟨A9,c9,rfl,-⟩:=(show Own (g d) w2.heap.size 9 v9 [z] from hp).form;(try clear hp);clear hG;go_frame;refine hr _ ?_;clear hr Kr;(repeat(refine Qao (by rfl) fun Kq hq=>?_;go_big_quiet_step (fail);refine wpQuiet_nil (hq _ ?_);clear hq Kq));refine QbZ 3 (by rfl) (by rfl) (fun d hG=>?_);have H9:Hid (Own (g d) w2.heap.size 9 (.slice A9 1 c9) [z]):=Lh (hG 5);have HOd:=Lh (HO2.out.below (hg d));have HBd:=Lh (HBV2.out.trans ((hg d).mono HBV2.out.size));have HX8d:=Lh (HX82.out.to (hg d));have HSZd:Hid (W0.heap.size≤w2.heap.size∧w2.heap.size≤(g d).heap.size):=Lh ⟨by have:=HSZ2.out;omega,(hg d).size⟩;have HKPd:Hid (∀i,i<W0.heap.size→i≠X8→(g d).heap[i]? =W0.heap[i]?):=Lh (fun i hi h8=>((hg d).block i (by have:=HSZ2.out;omega)).trans (HKP2.out i hi h8));have HLT:=Lh HO2.out.lt;clear hG hg hgm s0 m0 m1 l0 l1 l2 l3;generalize g d=wx at*;clear g
   have HS9:Hid (Sl wx (fun b=>w2.heap.size≤b) A9 c9 [z]):=Lh (by
    obtain⟨A,c,e,hs⟩:=Qev H9.out
    cases e
    exact hs)
   refine QaN (i:=6) (oi:=_) rfl (by kernel_rfl) (by rfl) (fun K hK=>?_);refine wp_cat (α:=ByteArray) _ (.tmp 29) (.tmp 33) 44 rfl W0.heap.size 9 (.string ⟨#[]⟩) 16 Tryz.underlying44 Qd2 rfl (show 0<1 by decide) _ L rfl HOd.out A9 c9 1 [z] rfl rfl (fun b=>w2.heap.size≤b) HS9.out (fun i (hi:w2.heap.size≤i) _ e=>by have:=(HLT.out i e.symm).2;omega) (by have:=HLN.out;omega) (by have:=HLN.out;omega) (by have:=HSZd.out;omega) ?_;intro v' w' ho' hg' hv';obtain⟨A6,c6,hv6,-⟩:=ho'.form;rw[show(L++[z]).length=L.length+1 by simp] at hv6;subst hv6;have HON:Hid (Own w' W0.heap.size 9 (.slice A6 (L.length+1) c6) ((bo.take (k+1)).map (Qbe sl 0 e v (Qbv ⟨a,b⟩)))):=Lh (by rw[HTK.out,List.map_append,HLL.out,List.map_cons,List.map_nil,HLS2.out];exact ho');have hrow:∀r,(Value.slice A5 L.length c5).ownBlock=some r→W0.heap.size≤r:=fun r hr=>(HLT.out r hr).1
   have HBN:Hid (Below V1.heap.size V1 w'):=Lh (HBd.out.grown hg' HBd.out.size (fun r hr=>by have:=hrow r hr;have:=H8.out;have:=HZ0.out;omega));have hbk:∀i,i<W0.heap.size→w'.heap[i]? =wx.heap[i]? :=fun i hi=>hg'.block i (by have:=HSZd.out;omega) (fun e=>by have:=hrow i e.symm;omega)
   have HX8N:Hid (ABox w' X8 46 [.string lab,.slice A5 L.length c5,.slice none 0 0]):=Lh ((hbk X8 (by have:=H8.out;have:=HZ0.out;omega)).trans HX8d.out);have HKPN:Hid (∀i,i<W0.heap.size→i≠X8→w'.heap[i]? =W0.heap[i]?):=Lh (fun i hi h8=>(hbk i hi).trans (HKPd.out i hi h8));have HSZN:Hid (W0.heap.size≤w'.heap.size):=Lh (by have h3:=hg'.size;have:=HSZd.out;omega);refine hK _ _ ?_;clear hK K ho' hg' hv' HOd HS9 H9 hrow hbk;(try simp only[Act.put,sA0]);refine QaN (i:=7) (oi:=_) rfl (by kernel_rfl) (by rfl) (fun K hK=>?_);go_simp;refine hK _ _ ?_;clear hK K;(try go_frame);have r1:=HX8N.out.cell 1 rfl;have f1:=HX8N.out.fz 1;refine QaN (i:=8) (oi:=_) rfl (by kernel_rfl) (by rfl) (fun K hK=>?_);go_simp;refine hK _ _ ?_;clear hK K r1 f1;(try go_frame);refine wpAny_done (by kernel_rfl) ?_ _;unfold Exit.then;have HLN2:Hid (LpI V1 W0 X8 [.string lab,.slice A6 (L.length+1) c6,.slice none 0 0] (.slice A6 (L.length+1) c6) ((bo.take (k+1)).map (Qbe sl 0 e v (Qbv ⟨a,b⟩))) (w'.setCell ⟨X8,1,none⟩ (.slice A6 (L.length+1) c6))):=Lh ⟨HBN.out.setCell (p:=⟨X8,1,none⟩) (by have:=H8.out;show V1.heap.size≤X8;omega) _,fun i hi h8=>by rw[Qac _ _ _ _ h8];exact HKPN.out i hi h8,HX8N.out.set 1 (.slice A6 (L.length+1) c6),own_setB HON.out (by have:=H8.out;have:=HZ0.out;omega) _ _,by have:=HSZN.out;simpa using this⟩;go_wp2_with fail;go_roundw;(case rel=>exact⟨k+1,_,by go_num,by omega,HLN2⟩);case measure=>(first|(simp[intOf];done)|(simp[intOf];omega))
  ·obtain rfl:k=nb:=by omega
   have hkI:¬(k:Int)<(k:Int):=(by omega);have ek:bo.take k=bo:=List.take_of_length_le (by rw[HNB.out];exact Nat.le_refl _);rw[ek] at HL;obtain⟨A1,c1x,hv5,hs1⟩:=Qev HL.out.ow;rw[qM,HNB.out] at hv5;subst hv5;have HS1:=Lh hs1;obtain⟨W1,hW1⟩:∃q:World,q=wr:=⟨_,rfl⟩;subst hW1;have HZ0:Hid (W0.heap.size≤W1.heap.size):=Lh HL.out.sz;have HX7W:Hid (ABox W1 X7 113 [.slice Aw (tot (a++b)) cw,.func (.func 113) #[] #[c1,c2,c3]]):=Lh ((HL.out.kp X7 (by have:=H8.out;omega) (by have:=H8.out;omega)).trans HX70.out);have HI1:Hid (LpI V1 W1 X8 [.string lab,.slice A1 k c1x,.slice none 0 0] (.slice none 0 0) [] W1):=Lh ⟨HL.out.bl,fun _ _ _=>rfl,HL.out.x8,Own.nil _ _ _,Nat.le_refl _⟩;have HBW1:Hid (Below wb.heap.size wb W1):=Lh (HB1.out.trans (HL.out.bl.mono HB1.out.size));have y5:W1.cell? ⟨w.heap.size,5,none⟩=some (.slice Aq nn cq):=(HX0.out.to HBW1.out).cell 5 rfl;clear hs1 ek HL y4;go_wp2_with fail;go_loopw [40] (fun v40 wr=>∃(j:Nat) (v6:Value),v40=.int .i64 (j:Int)∧j≤nn∧Hid (LpI V1 W1 X8 [.string lab,.slice A1 k c1x,v6] v6 ((no.take j).map (Qbe sl 0 e v (Qbv ⟨a,b⟩))) wr)) (fun v40 _=>nn-(intOf v40).toNat);(case atStart=>exact⟨0,_,rfl,Nat.zero_le _,HI1⟩);case round=>
    clear HI1 y5;obtain⟨j,v6,rfl,hk2,HL⟩:=hrel;by_cases hlt:j<nn
    ·have hkl:j<no.length:=by rw[HNN.out];exact hlt
     have HBw:Hid (Below wb.heap.size wb wr):=Lh (HB1.out.trans (HL.out.bl.mono HB1.out.size));obtain⟨bl,ol,Ag,cg,An,cn,hAp,-,hbl0,e0,e1,e2,e3,-,-⟩:=Qdr HNO.out hkl;subst hAp;have hIn:=HIN.out no[j] (by simp[List.getElem_mem]);have HLS:=Lh (lineS_to (sl:=sl) (gs:=0) (e:=e) (v:=v) (ws:=Qbv ⟨a,b⟩) hIn);have HTK:=Lh (qT hkl);obtain⟨x,hx⟩:∃x,no[j]=x:=⟨_,rfl⟩;rw[hx] at e0 e1 e2 e3 hIn HLS HTK;obtain⟨h0,h1,h2⟩:=hIn;obtain⟨fr,un,ga,no2⟩:=x;dsimp only at h0 h1 h2 e0 e1 e2 e3;obtain⟨f,rfl⟩:=Int.eq_ofNat_of_zero_le h0;obtain⟨u,rfl⟩:=Int.eq_ofNat_of_zero_le (show 0≤un by omega);obtain⟨z,hz⟩:∃z,Qeb (QaZ sl 0 e v (Qbv ⟨a,b⟩) f u)=z:=⟨_,rfl⟩;have HZ:=Lh hz;have HFU:Hid (f<u∧u≤tot (a++b)):=Lh (by omega);have HLS2:Hid (Qbe sl 0 e v (Qbv ⟨a,b⟩) ⟨(f:Int),(u:Int),ga,no2⟩=z):=Lh (by rw[HLS.out,←hz];rfl);have q0:=(HBw.out.cell (p:=⟨bl,ol+j*4,none⟩) hbl0).trans e0;have q1:=(HBw.out.cell (p:=⟨bl,ol+j*4+1,none⟩) hbl0).trans e1;have q2:=(HBw.out.cell (p:=⟨bl,ol+j*4+2,none⟩) hbl0).trans e2;have q3:=(HBw.out.cell (p:=⟨bl,ol+j*4+3,none⟩) hbl0).trans e3;have hkI:(j:Int)<(nn:Int):=(by omega);obtain⟨L,hL⟩:∃L,(no.take j).map (Qbe sl 0 e v (Qbv ⟨a,b⟩))=L:=⟨_,rfl⟩;have HLL:=Lh hL;have HLN:Hid (L.length≤1048576):=Lh (by rw[←hL,qM,qK];omega);rw[hL] at HL;obtain⟨A5,c5,hv5,-⟩:=HL.out.ow.form;subst hv5;clear hz hx h0 h1 h2 e0 e1 e2 e3 HLS hL;go_upto_region 11 with(fail);obtain⟨Xl,hXl⟩:∃q,wr.heap.size=q:=⟨_,rfl⟩;obtain⟨w2,hw2⟩:∃q,wr.alloc (.cells #[.int .i64 f,.int .i64 u,.slice Ag ga.length cg,.slice An no2.length cn] 56)=q:=⟨_,rfl⟩;have hb2:Below wr.heap.size wr w2:=(by rw[←hw2];exact bR.alloc nL _);have HXl:Hid (ABox w2 Xl 56 [.int .i64 f,.int .i64 u,.slice Ag ga.length cg,.slice An no2.length cn]):=Lh (by rw[←hw2,←hXl];exact heap_alloc_new wr _);have HX82:=Lh (HL.out.x8.to hb2);have HX72:Hid (ABox w2 X7 113 [.slice Aw (tot (a++b)) cw,.func (.func 113) #[] #[c1,c2,c3]]):=Lh (((hb2.block X7 (by have:=H8.out;have:=HL.out.sz;have:=HZ0.out;omega)).trans (HL.out.kp X7 (by have:=H8.out;have:=HZ0.out;omega) (by have:=H8.out;omega))).trans HX7W.out);have HBV2:Hid (Below V1.heap.size V1 w2):=Lh (HL.out.bl.trans (hb2.mono HL.out.bl.size));have HO2:=Lh (HL.out.ow.below hb2);have HSZ2:Hid (W1.heap.size≤wr.heap.size∧wr.heap.size≤w2.heap.size):=Lh ⟨HL.out.sz,hb2.size⟩;have HKP2:Hid (∀i,i<W1.heap.size→i≠X8→w2.heap[i]? =W1.heap[i]?):=Lh (fun i hi h8=>(hb2.block i (by have:=HL.out.sz;omega)).trans (HL.out.kp i hi h8));rw[hw2,hXl];clear hXl hw2 hb2 q0 q1 q2 q3;refine Qap [4,5] (fun i=>if i=4 then SP.val (.string z) else if i=5 then SP.own w2.heap.size 9 [z] else SP.any) 6 (by kernel_rfl) (by kernel_rfl) ?_;intro T _ g hg hgm;have s0:∀d,(g d).cell? ⟨X8,2,none⟩=some (.slice A5 L.length c5):=fun d=>(HX82.out.to (hg d)).cell 2 rfl
     have m0:∀d,(g d).cell? ⟨X7,0,none⟩=some (.slice Aw (tot (a++b)) cw):=fun d=>(HX72.out.to (hg d)).cell 0 rfl
     have m1:∀d,(g d).cell? ⟨X7,1,none⟩=some (.func (.func 113) #[] #[c1,c2,c3]):=fun d=>(HX72.out.to (hg d)).cell 1 rfl
     have l0:∀d,(g d).cell? ⟨Xl,0,none⟩=some (.int .i64 f):=fun d=>(HXl.out.to (hg d)).cell 0 rfl
     have l1:∀d,(g d).cell? ⟨Xl,1,none⟩=some (.int .i64 u):=fun d=>(HXl.out.to (hg d)).cell 1 rfl
     have l2:∀d,(g d).cell? ⟨Xl,2,none⟩=some (.slice Ag ga.length cg):=fun d=>(HXl.out.to (hg d)).cell 2 rfl
     have l3:∀d,(g d).cell? ⟨Xl,3,none⟩=some (.slice An no2.length cn):=fun d=>(HXl.out.to (hg d)).cell 3 rfl
     (repeat(refine Qao (by rfl) fun Kq hq=>?_;go_big_quiet_step (fail);refine wpQuiet_nil (hq _ ?_);clear hq Kq));refine QaG (by rfl) (by rfl) (fun d hG K Q hK=>?_) (fun v9 d hG hp Kr hr=>?_)
     ·go_simp;go_at_call 60;refine(HS.out (g d) (HBV2.out.trans ((hg d).mono HBV2.out.size)) f u Ag An ga.length cg no2.length cn HFU.out.1 HFU.out.2).mono ?_;rintro r w3 ⟨rfl,hb3⟩;go_simp;exact hK _ _ hb3 (by show Value.string _=Value.string _;rw[HZ.out])
     have hp:v9=.string z:=hp;subst hp;(try clear hp);clear hG;go_frame;refine hr _ ?_;clear hr Kr;(repeat(refine Qao (by rfl) fun Kq hq=>?_;go_big_quiet_step (fail);refine wpQuiet_nil (hq _ ?_);clear hq Kq));refine QaG (by rfl) (by rfl) (fun d hG K Q hK=>?_) (fun v9 d hG hp Kr hr=>?_)
     ·go_simp;refine hK _ _ (bR.alloc nL _) (show Own _ _ _ _ _ from ?_);refine Own.lit (α:=ByteArray) (g d) w2.heap.size 9 #[.string z] [z] (hg d).size (by simp[maxLen]) rfl (by intro u hu;simp at hu;rcases hu with rfl;rfl) (fun i hi=>?_);obtain rfl:i=0:=by simp at hi;exact hi
      exact⟨rfl,HZM.out z (by rw[←HZ.out];exact⟨f,u,rfl,HFU.out.2⟩)⟩
     obtain⟨A9,c9,rfl,-⟩:=(show Own (g d) w2.heap.size 9 v9 [z] from hp).form;(try clear hp);clear hG;go_frame;refine hr _ ?_;clear hr Kr;(repeat(refine Qao (by rfl) fun Kq hq=>?_;go_big_quiet_step (fail);refine wpQuiet_nil (hq _ ?_);clear hq Kq));refine QbZ 3 (by rfl) (by rfl) (fun d hG=>?_);have H9:Hid (Own (g d) w2.heap.size 9 (.slice A9 1 c9) [z]):=Lh (hG 5);have HOd:=Lh (HO2.out.below (hg d));have HBd:=Lh (HBV2.out.trans ((hg d).mono HBV2.out.size));have HX8d:=Lh (HX82.out.to (hg d));have HSZd:Hid (W1.heap.size≤w2.heap.size∧w2.heap.size≤(g d).heap.size):=Lh ⟨by have:=HSZ2.out;omega,(hg d).size⟩;have HKPd:Hid (∀i,i<W1.heap.size→i≠X8→(g d).heap[i]? =W1.heap[i]?):=Lh (fun i hi h8=>((hg d).block i (by have:=HSZ2.out;omega)).trans (HKP2.out i hi h8));have HLT:=Lh HO2.out.lt;clear hG hg hgm s0 m0 m1 l0 l1 l2 l3;generalize g d=wx at*;clear g
     have HS9:Hid (Sl wx (fun b=>w2.heap.size≤b) A9 c9 [z]):=Lh (by
      obtain⟨A,c,e,hs⟩:=Qev H9.out
      cases e
      exact hs)
     refine QaN (i:=6) (oi:=_) rfl (by kernel_rfl) (by rfl) (fun K hK=>?_);refine wp_cat (α:=ByteArray) _ (.tmp 45) (.tmp 49) 44 rfl W1.heap.size 9 (.string ⟨#[]⟩) 16 Tryz.underlying44 Qd2 rfl (show 0<1 by decide) _ L rfl HOd.out A9 c9 1 [z] rfl rfl (fun b=>w2.heap.size≤b) HS9.out (fun i (hi:w2.heap.size≤i) _ e=>by have:=(HLT.out i e.symm).2;omega) (by have:=HLN.out;omega) (by have:=HLN.out;omega) (by have:=HSZd.out;omega) ?_;intro v' w' ho' hg' hv';obtain⟨A6,c6,hv6,-⟩:=ho'.form;rw[show(L++[z]).length=L.length+1 by simp] at hv6;subst hv6;have HON:Hid (Own w' W1.heap.size 9 (.slice A6 (L.length+1) c6) ((no.take (j+1)).map (Qbe sl 0 e v (Qbv ⟨a,b⟩)))):=Lh (by rw[HTK.out,List.map_append,HLL.out,List.map_cons,List.map_nil,HLS2.out];exact ho');have hrow:∀r,(Value.slice A5 L.length c5).ownBlock=some r→W1.heap.size≤r:=fun r hr=>(HLT.out r hr).1
     have HBN:Hid (Below V1.heap.size V1 w'):=Lh (HBd.out.grown hg' HBd.out.size (fun r hr=>by have:=hrow r hr;have:=H8.out;have:=HZ0.out;omega));have hbk:∀i,i<W1.heap.size→w'.heap[i]? =wx.heap[i]? :=fun i hi=>hg'.block i (by have:=HSZd.out;omega) (fun e=>by have:=hrow i e.symm;omega)
     have HX8N:Hid (ABox w' X8 46 [.string lab,.slice A1 k c1x,.slice A5 L.length c5]):=Lh ((hbk X8 (by have:=H8.out;have:=HZ0.out;omega)).trans HX8d.out);have HKPN:Hid (∀i,i<W1.heap.size→i≠X8→w'.heap[i]? =W1.heap[i]?):=Lh (fun i hi h8=>(hbk i hi).trans (HKPd.out i hi h8));have HSZN:Hid (W1.heap.size≤w'.heap.size):=Lh (by have h3:=hg'.size;have:=HSZd.out;omega);refine hK _ _ ?_;clear hK K ho' hg' hv' HOd HS9 H9 hrow hbk;(try simp only[Act.put,sA0]);refine QaN (i:=7) (oi:=_) rfl (by kernel_rfl) (by rfl) (fun K hK=>?_);go_simp;refine hK _ _ ?_;clear hK K;(try go_frame);have r1:=HX8N.out.cell 2 rfl;have f1:=HX8N.out.fz 2;refine QaN (i:=8) (oi:=_) rfl (by kernel_rfl) (by rfl) (fun K hK=>?_);go_simp;refine hK _ _ ?_;clear hK K r1 f1;(try go_frame);refine wpAny_done (by kernel_rfl) ?_ _;unfold Exit.then;have HLN2:Hid (LpI V1 W1 X8 [.string lab,.slice A1 k c1x,.slice A6 (L.length+1) c6] (.slice A6 (L.length+1) c6) ((no.take (j+1)).map (Qbe sl 0 e v (Qbv ⟨a,b⟩))) (w'.setCell ⟨X8,2,none⟩ (.slice A6 (L.length+1) c6))):=Lh ⟨HBN.out.setCell (p:=⟨X8,2,none⟩) (by have:=H8.out;show V1.heap.size≤X8;omega) _,fun i hi h8=>by rw[Qac _ _ _ _ h8];exact HKPN.out i hi h8,HX8N.out.set 2 (.slice A6 (L.length+1) c6),own_setB HON.out (by have:=H8.out;have:=HZ0.out;omega) _ _,by have:=HSZN.out;simpa using this⟩;go_wp2_with fail;go_roundw;(case rel=>exact⟨j+1,_,by go_num,by omega,HLN2⟩);case measure=>(first|(simp[intOf];done)|(simp[intOf];omega))
    ·obtain rfl:j=nn:=by omega
     have hjI:¬(j:Int)<(j:Int):=(by omega);have ej:no.take j=no:=List.take_of_length_le (by rw[HNN.out];exact Nat.le_refl _);rw[ej] at HL;obtain⟨A2,c2x,hv6,hs2⟩:=Qev HL.out.ow;rw[qM,HNN.out] at hv6;subst hv6;have HS2:=Lh hs2;have HBw:Hid (Below wb.heap.size wb wr):=Lh (HB1.out.trans (HL.out.bl.mono HB1.out.size));have HXR:=Lh (HX2.out.to HBw.out);have r0:=HL.out.x8.cell 0 rfl;have r1:=HL.out.x8.cell 1 rfl;have r2:=HL.out.x8.cell 2 rfl;have q0:=HXR.out.cell 0 rfl;have q1:=HXR.out.cell 1 rfl;have q2:=HXR.out.cell 2 rfl;have f0:=HXR.out.fz 0;have f1:=HXR.out.fz 1;have f2:=HXR.out.fz 2;go_wp2_with fail;have HXF:=Lh (((HXR.out.set 0 (.string lab)).set 1 (.slice A1 k c1x)).set 2 (.slice A2 j c2x));have hX2:=HX2.out.lt;have hw2:w.heap.size+1+1<V1.heap.size:=by have:=HB1.out.size;omega
     have hoth:∀i,i≠w.heap.size+1+1→(((wr.setCell ⟨w.heap.size+1+1,0,none⟩ (.string lab)).setCell ⟨w.heap.size+1+1,1,none⟩ (.slice A1 k c1x)).setCell ⟨w.heap.size+1+1,2,none⟩ (.slice A2 j c2x)).heap[i]? =wr.heap[i]? :=fun i hi=>by rw[Qac _ _ _ _ hi,Qac _ _ _ _ hi,Qac _ _ _ _ hi]
     have hzz:(((wr.setCell ⟨w.heap.size+1+1,0,none⟩ (.string lab)).setCell ⟨w.heap.size+1+1,1,none⟩ (.slice A1 k c1x)).setCell ⟨w.heap.size+1+1,2,none⟩ (.slice A2 j c2x)).heap.size=wr.heap.size:=by simp
     have hb5:Below w.heap.size w (((wr.setCell ⟨w.heap.size+1+1,0,none⟩ (.string lab)).setCell ⟨w.heap.size+1+1,1,none⟩ (.slice A1 k c1x)).setCell ⟨w.heap.size+1+1,2,none⟩ (.slice A2 j c2x)):=(((HBA.out.trans (HBw.out.mono HBA.out.size)).setCell (p:=⟨w.heap.size+1+1,0,none⟩) (by show w.heap.size≤w.heap.size+1+1;omega) _).setCell (p:=⟨w.heap.size+1+1,1,none⟩) (by show w.heap.size≤w.heap.size+1+1;omega) _).setCell (p:=⟨w.heap.size+1+1,2,none⟩) (by show w.heap.size≤w.heap.size+1+1;omega) _;refine bodyPost_ret (v:=.agg #[.string lab,.slice A1 k c1x,.slice A2 j c2x]) (Qbx Tryz.results19 _ _ (w.heap.size+1+1) _ [.string lab,.slice A1 k c1x,.slice A2 j c2x] _ rfl HXF.out Tryz.underlying46 rfl (by kernel_rfl)) rfl ⟨A1,c1x,A2,c2x,by rw[HLAB.out],?_,?_,hb5⟩
     ·refine(HS1.out.keep (fun i (hi:W0.heap.size≤i) hl=>(hoth i (by have:=H8.out;omega)).trans (HL.out.kp i hl (by have:=H8.out;omega))) (by rw[hzz];exact HL.out.sz)).mono (fun i (hi:W0.heap.size≤i) _=>by have:=H8.out;show w.heap.size≤i;omega)
     ·refine(HS2.out.keep (fun i (hi:W1.heap.size≤i) hl=>hoth i (by have:=H8.out;have:=HZ0.out;omega)) (by rw[hzz];exact Nat.le_refl _)).mono (fun i (hi:W1.heap.size≤i) _=>by have:=H8.out;have:=HZ0.out;show w.heap.size≤i;omega)
instance:Rep SheetP where
 size:=3
 R w S cs s:=∃va vb,cs=[.string s.label,va,vb]∧Rep.R w S [va] s.body∧Rep.R w S [vb] s.notes
 len:=by rintro w S cs s ⟨va,vb,rfl,_⟩;rfl
 one:=by
  rintro w S cs s ⟨va,vb,rfl,ha,hb⟩ u hu;have h1:=Rep.one ha va (by simp);have h2:=Rep.one hb vb (by simp);simp at hu;rcases hu with rfl|rfl|rfl
  ·rfl
  ·exact h1
  ·exact h2
 keep:=by rintro w w' S cs s ⟨va,vb,rfl,ha,hb⟩ hk;exact⟨va,vb,rfl,Rep.keep ha hk,Rep.keep hb hk⟩
 mono:=by rintro w S S' cs s ⟨va,vb,rfl,ha,hb⟩ hk;exact⟨va,vb,rfl,Rep.mono ha hk,Rep.mono hb hk⟩
theorem sheetP_at {w:World}{S:Nat→Prop}{A:Option Addr}{c:Nat}{l:List SheetP}(h:Sl w S A c l){k:Nat}(hk:k<l.length):
 ∃b o A1 c1 A2 c2,A=some ⟨b,o,none⟩∧S b∧b<w.heap.size∧w.cell? ⟨b,o+k*3,none⟩=some (.string l[k].label)∧w.cell? ⟨b,o+k*3+1,none⟩=some (.slice A1 l[k].body.length c1)∧w.cell? ⟨b,o+k*3+2,none⟩=some (.slice A2 l[k].notes.length c2)∧ Sl w S A1 c1 l[k].body∧Sl w S A2 c2 l[k].notes:=by
 obtain⟨b,o,es,rfl,hb,hlt,⟨va,vb,rfl,⟨A1,c1,e1,h1,_⟩,⟨A2,c2,e2,h2,_⟩⟩,hc⟩:=h.at_ hk;obtain rfl:va=.slice A1 l[k].body.length c1:=by simpa using e1
 obtain rfl:vb=.slice A2 l[k].notes.length c2:=by simpa using e2
 exact⟨b,o,A1,c1,A2,c2,rfl,hb,hlt,hc 0 _ rfl,hc 1 _ rfl,hc 2 _ rfl,h1,h2⟩
def Qbk (l:List SectP)(p:PageP):TextP:=(hasT l p.entry p.ver).getD ⟨[],[]⟩
def QaY (m h:Int)(l:List SectP)(sl:List Seal):List SheetP:=(Qak m h l).map fun p=>Qc0 sl p (Qbv (Qbk l p))
set_option maxRecDepth 100000 in
theorem textAt_any {m h:Int}{A:Option Addr}{c:Nat}{l:List SectP}{w:World}(hs:Sl w (fun b=>b<w.heap.size) A c l)(hsh:QbX l)(heq:∀s∈l,s.texts.length=s.vers.length)(entry ver:Int):
 Calls Tryz.prog 27 #[.agg #[.int .i64 m,.int .i64 h,.slice A l.length c],.int .i64 entry,.int .i64 ver] w fun e W'=>TxtP (hasT l entry ver) e W'∧Below w.heap.size w W':=by
 obtain⟨wb,hwb⟩:∃wb,(w.alloc (.cells #[.int .i64 m,.int .i64 h,.slice A l.length c] 25)).alloc (.cells #[.slice none 0 0,.slice none 0 0] 36)=wb:=⟨_,rfl⟩;have hba:Below w.heap.size w wb:=by rw[←hwb];exact(bR.alloc nL _).alloc (by simp) _
 have hx0:ABox wb w.heap.size 25 [.int .i64 m,.int .i64 h,.slice A l.length c]:=by rw[←hwb];exact(Below.heap_alloc _ _ _ (by simp)).trans (heap_alloc_new w _)
 have hx1:ABox wb (w.heap.size+1) 36 [.slice none 0 0,.slice none 0 0]:=by rw[←hwb];exact Qai (by simp)
 have HF:=Lh (find_any A c l m h entry wb (hs.to hba) (by have:=hsh.1;omega));have hsz:wb.heap.size=w.heap.size+2:=by rw[←hwb];simp
 have HZ:=Lh hsz;have HB:=Lh hba;have HX0:=Lh hx0;have HX1:=Lh hx1;have HS:=Lh hs;have HQ:=Lh heq;have HSH:=Lh hsh;have hlc:l.length≤c:=hs.1;have x0:=hx0.cell 0 rfl;have x1:=hx0.cell 1 rfl;have x2:=hx0.cell 2 rfl;clear hba hx0 hx1 hsz hs heq hsh;go_enter Tryz.func27,Tryz.ntmps27;go_upto_region 1 with(fail);(try rw[hwb]);clear hwb
 go_upto_region 2 with(first|(go_at_call 69;refine HF.out.mono ?_;rintro e w1 ⟨rfl,hb1⟩;have HB1:=Lh hb1;clear hb1 x0 x1 x2)|fail)
 have HX1w:=Lh (HX1.out.to HB1.out);have HX0w:=Lh (HX0.out.to HB1.out);have HBA:Hid (Below w.heap.size w w1):=Lh (HB.out.trans (HB1.out.mono HB.out.size));have HZ1:Hid (w.heap.size+2≤w1.heap.size):=Lh (by have:=HB1.out.size;have:=HZ.out;omega);clear HF HB1 HX1 HX0 HB;rcases QeC l entry with hf|⟨k,hk,hf,hfe⟩
 ·have HN:=Lh (hasT_none1 (v:=ver) hf);rw[hf];have z0:=HX1w.out.cell 0 rfl;have f0:=HX1w.out.fz 0;have z1:=(HX1w.out.set 0 (.slice none 0 0)).cell 1 rfl;have f1:=(HX1w.out.set 0 (.slice none 0 0)).fz 1;clear hf;go_wp2_with fail
  exact bodyPost_ret (v:=.tuple #[.agg #[.slice none 0 0,.slice none 0 0],.bool false]) (QaK Tryz.results27 _ _ (w.heap.size+1) _ #[.slice none 0 0,.slice none 0 0] (0,0) _ rfl (abox2 HX1w.out _ _) Tryz.underlying36 rfl (by kernel_rfl)) rfl ⟨TxtP.no _ HN.out,below2 HBA.out (by omega) _ _⟩
 ·obtain⟨b,o,Ag,cg,An,cn,rfl,-,hbl,e0,e1,e2,e3,hg1,hn1,-⟩:=Qds HS.out hk;have hqe:=HQ.out _ (List.getElem_mem hk);have hshx:=HSH.out.2 _ (List.getElem_mem hk);obtain⟨x,hx⟩:∃x,l[k]=x:=⟨_,rfl⟩;rw[hx] at e0 e1 e2 e3 hg1 hn1 hqe hshx;have HNO:Hid (idxP x.vers ver= -1→hasT l entry ver=none):=Lh (fun h1=>hasT_none2 hf hk hx (by omega) h1);have HYES:Hid (∀j (hj:j<x.texts.length),idxP x.vers ver=(j:Int)→hasT l entry ver=some x.texts[j]):=Lh (fun j hj h1=>hasT_some hf hk hx hj h1);have k2:=(HBA.out.cell (p:=⟨b,o+k*4+2,none⟩) hbl).trans e2;have k3:=(HBA.out.cell (p:=⟨b,o+k*4+3,none⟩) hbl).trans e3;have x2:=HX0w.out.cell 2 rfl;have HIX:=Lh (indexI_any Ag cg x.vers ver w1 (hg1.to HBA.out) (by have:=hshx.1;omega));have HN1:=Lh hn1;have HSX:=Lh hshx;have HV:Hid (x.texts.length=x.vers.length∧x.vers.length≤1048576):=Lh ⟨hqe,hshx.1⟩;have hnc:x.texts.length≤cn:=hn1.1;rw[hf];have hkI:¬(k:Int)<0:=(by omega);have hkL:(k:Int)<(l.length:Int):=(by omega);clear hf hfe e0 e1 e2 e3 hg1 hn1 hqe hshx hx
  go_upto_region 5 with(first|(go_at_call 70;refine HIX.out.mono ?_;rintro e w2 ⟨rfl,rfl⟩)|fail)
  by_cases hin:ver∈x.vers
  ·have hj:x.vers.findIdx (fun x=>decide (x=ver))<x.vers.length:=List.findIdx_lt_length_of_exists ⟨ver,hin,by simp⟩;have hix:idxP x.vers ver=(x.vers.findIdx (fun x=>decide (x=ver)):Int):=(by unfold idxP;rw[if_pos hj]);obtain⟨j,hje⟩:∃j,x.vers.findIdx (fun x=>decide (x=ver))=j:=⟨_,rfl⟩;rw[hje] at hj hix;have hqt:j<x.texts.length:=(by rw[HV.out.1];exact hj);have hyes:=HYES.out j hqt hix;rw[hix];obtain⟨bt,ot,Aa,ca,Ab,cb,rfl,-,hbt,t0',t1',ht1,ht2⟩:=text_at HN1.out hqt;have hsx:=HSX.out.2.2 _ (List.getElem_mem hqt);obtain⟨z,hz⟩:∃z,x.texts[j]=z:=⟨_,rfl⟩;rw[hz] at t0' t1' ht1 ht2 hyes hsx;have t0:=(HBA.out.cell (p:=⟨bt,ot+j*2,none⟩) hbt).trans t0';have t1:=(HBA.out.cell (p:=⟨bt,ot+j*2+1,none⟩) hbt).trans t1';have HYE:=Lh hyes;have HBT:=Lh (Qet Aa Ab ca cb z.a z.b _ (ht1.to HBA.out) (ht2.to HBA.out) hsx.1 hsx.2);have hjI:¬(j:Int)<0:=(by omega);have hjT:(j:Int)<(x.texts.length:Int):=(by omega);clear hz hyes ht1 ht2 t0' t1' hbt hix hje hj hin hsx
   go_wp2_with (first
    |(go_at_call 71;refine HBT.out.mono ?_;rintro e w3 ⟨va,vb,rfl,hr,hb3⟩;obtain⟨Ag1,Ag2,hvv,⟨A5,c5,e5,hs5,-⟩,⟨A6,c6,e6,hs6,-⟩⟩:=hr;cases hvv;cases e5;cases e6;have HS5:=Lh hs5;have HS6:=Lh hs6;have HB3:=Lh hb3;clear hs5 hs6 hb3 k2 k3 x2 t0 t1;have z0:=(HX1w.out.to HB3.out).cell 0 rfl;have f0:=(HX1w.out.to HB3.out).fz 0;have z1:=((HX1w.out.to HB3.out).set 0 (.slice A5 z.a.length c5)).cell 1 rfl;have f1:=((HX1w.out.to HB3.out).set 0 (.slice A5 z.a.length c5)).fz 1)
    |fail)
   have HBF:=Lh (below2 (HBA.out.trans (HB3.out.mono HBA.out.size)) (b:=w.heap.size+1) (by omega) (.slice A5 z.a.length c5) (.slice A6 z.b.length c6))
   have hkp:∀i,Up w1.heap.size i→((w3.setCell ⟨w.heap.size+1,0,none⟩ (.slice A5 z.a.length c5)).setCell ⟨w.heap.size+1,1,none⟩ (.slice A6 z.b.length c6)).heap[i]? =w3.heap[i]? :=fun i (hi:w1.heap.size≤i)=>by
    have:=HZ1.out;exact(Qac _ _ _ _ (by omega)).trans (Qac _ _ _ _ (by omega))
   refine bodyPost_ret (v:=.tuple #[.agg #[.slice A5 z.a.length c5,.slice A6 z.b.length c6],.bool true]) (QaK Tryz.results27 _ _ (w.heap.size+1) _ #[.slice A5 z.a.length c5,.slice A6 z.b.length c6] (0,0) _ rfl (abox2 (HX1w.out.to HB3.out) _ _) Tryz.underlying36 rfl (by kernel_rfl)) rfl ⟨TxtP.yes HYE.out ((HS5.out.keep (fun i hi _=>hkp i hi) (by simp)).mono fun i _ hl=>hl) ((HS6.out.keep (fun i hi _=>hkp i hi) (by simp)).mono fun i _ hl=>hl),HBF.out⟩
  ·have hix:idxP x.vers ver= -1:=Qed fun i hi e=>hin (by rw[←e];exact List.getElem_mem hi)
   have HNN:Hid (hasT l entry ver=none):=Lh (HNO.out hix);rw[hix];have z0:=HX1w.out.cell 0 rfl;have f0:=HX1w.out.fz 0;have z1:=(HX1w.out.set 0 (.slice none 0 0)).cell 1 rfl;have f1:=(HX1w.out.set 0 (.slice none 0 0)).fz 1;clear hix hin k2 k3 x2;go_wp2_with fail
   exact bodyPost_ret (v:=.tuple #[.agg #[.slice none 0 0,.slice none 0 0],.bool false]) (QaK Tryz.results27 _ _ (w.heap.size+1) _ #[.slice none 0 0,.slice none 0 0] (0,0) _ rfl (abox2 HX1w.out _ _) Tryz.underlying36 rfl (by kernel_rfl)) rfl ⟨TxtP.no _ HNN.out,below2 HBA.out (by omega) _ _⟩






structure PgV (l:List SectP)(p:PageP):Prop where
 num:1≤p.num∧p.num≤16384
 suf:0≤p.suf∧p.suf≤16384
 bl:p.body.length≤1048576
 nl:p.notes.length≤1048576
 la:(Qbk l p).a.length≤100
 lb:(Qbk l p).b.length≤100
 tt:tot ((Qbk l p).a++(Qbk l p).b)≤1048576
 ws:∀y∈Qbv (Qbk l p),y.s.size≤1000
 inl:∀x∈p.body++p.notes,InL (tot ((Qbk l p).a++(Qbk l p).b)) x
theorem sheet_info:(Tryz.prog.info? 46).map (fun i=>(i.zero,i.size,i.bytes))=some (some (.agg #[.string ⟨#[]⟩,.slice none 0 0,.slice none 0 0]),3,64):=by kernel_rfl
set_option maxRecDepth 100000 in
theorem sheets_any {m h:Int}{A:Option Addr}{c:Nat}{l:List SectP}(As:Option Addr)(cs ns:Nat)(sl:List Seal){w:World}(H:BookOk w m h A c l)(hT:Tabs w)(heq:∀s∈l,s.texts.length=s.vers.length) (hP:∀p∈Qak m h l,PgV l p) (hps:(Qak m h l).length≤1048576) (hsl:Sl w (fun b=>b<w.heap.size) As cs sl) (hn:sl.length=ns) (hsz:ns≤1048576) (hg:∀s∈sl,0≤s.g∧s.g<16):
 Calls Tryz.prog 16 #[.agg #[.int .i64 m,.int .i64 h,.slice A l.length c],.slice As ns cs] w fun r W'=>∃v,r=.returned v∧Own W' w.heap.size 46 v (QaY m h l sl)∧Below w.heap.size w W':=by
 have hb0:=(Below.refl w.heap.size w).alloc nL (.cells #[.int .i64 m,.int .i64 h,.slice A l.length c] 25);have hx0:ABox (w.alloc (.cells #[.int .i64 m,.int .i64 h,.slice A l.length c] 25)) w.heap.size 25 [.int .i64 m,.int .i64 h,.slice A l.length c]:=heap_alloc_new w _;have hPg:=QeV (H.to hb0);have HTX:=Lh (fun(W:World) (hW:Below w.heap.size w W) (p:PageP)=>textAt_any (m:=m) (h:=h) (w:=W) (H.s.to hW) H.sh heq p.entry p.ver);have HSL:=Lh (fun(W:World) (hW:Below w.heap.size w W)=>hsl.to hW);have HTB:=Lh (fun(W:World) (hW:Below w.heap.size w W)=>hT.to hW);have HPV:=Lh hP;have HNS:=Lh hn;have HSZ:=Lh hsz;have HG:=Lh hg;have HLL:=Lh hps;go_enter Tryz.func16,Tryz.ntmps16;go_upto_region 1 with(fail);generalize w.alloc (.cells #[.int .i64 m,.int .i64 h,.slice A l.length c] 25)=w0 at*;have x0:=hx0.cell 0 rfl;have x1:=hx0.cell 1 rfl;have x2:=hx0.cell 2 rfl;have HB0:=Lh hb0;have HX0:=Lh hx0;have HP:=Lh hPg;clear hb0 hx0 hPg hT hsl hn hsz hg hP hps heq H
 go_upto_region 3 with(first|(go_at_call 26;refine HP.out.mono ?_;rintro e w1 ⟨v,R,rfl,ho,hR,hb1⟩;obtain⟨A2,c2,rfl,hs⟩:=ho.plain.sl;have hnc:=hs.1;have hnc2:c2≤9223372036854775807:=hs.2.1;have hn2:=HLL.out;have HS:=Lh hs;have HX1:=Lh (HX0.out.to hb1);have HB1:=Lh (HB0.out.trans (hb1.mono HB0.out.size));clear hb1 x0 x1 x2 hR ho hs)|fail)
 obtain⟨ps,hps⟩:∃ps,Qak m h l=ps:=⟨_,rfl⟩;have HPS:=Lh hps;rw[hps] at HS HPV HLL hnc hn2 ⊢;clear HP;obtain⟨n,hn⟩:∃n,ps.length=n:=⟨_,rfl⟩;have HN:=Lh hn;rw[hn] at hnc hn2 ⊢;clear hn hps;go_wp2_with fail;go_loopw [5,13] (fun v i wr=>∃k:Nat,k≤n∧i=.int .i64 k∧Hid (Own wr w1.heap.size 46 v ((ps.take k).map fun p=>Qc0 sl p (Qbv (Qbk l p))))∧Below w1.heap.size w1 wr) (fun _ i _=>n-(intOf i).toNat);(case atStart=>exact⟨0,by omega,rfl,Lh (Own.nil _ _ _),Below.refl _ _⟩);case round=>
  obtain⟨k,hk,rfl,HO,hb⟩:=hrel;have HB:=Lh hb;have HBW:Hid (Below w.heap.size w wr):=Lh (HB1.out.trans (hb.mono HB1.out.size));by_cases hlt:k<n
  ·have hkl:k<ps.length:=by rw[HN.out];exact hlt
   have HTK:=Lh (qT hkl);obtain⟨b,o,va,vb,rfl,-,hblt,p0,p1,p2,p3,p4,p5,ra,rb⟩:=page_at (HS.out.keep (Kept.all hb) hb.size) hkl;have hy:=HPV.out _ (List.getElem_mem hkl);obtain⟨Ap,cp,e1,hbo,-⟩:=ra;obtain⟨Aq,cq,e2,hno,-⟩:=rb;obtain rfl:va=.slice Ap ps[k].body.length cp:=by simpa using e1
   obtain rfl:vb=.slice Aq ps[k].notes.length cq:=by simpa using e2
   obtain⟨p,hp⟩:∃p,ps[k]=p:=⟨_,rfl⟩;rw[hp] at p0 p1 p2 p3 p4 p5 hbo hno hy HTK;have HY:=Lh hy;have HBO:=Lh hbo;have HNO:=Lh hno;obtain⟨num,suf,en,ve,body,notes⟩:=p;dsimp only at p0 p1 p2 p3 p4 p5 HBO HNO;obtain⟨a,rfl⟩:=Int.eq_ofNat_of_zero_le (show 0≤num by have:=HY.out.num.1;dsimp only at this;omega);obtain⟨z,rfl⟩:=Int.eq_ofNat_of_zero_le (show 0≤suf from HY.out.suf.1);have hki:(k:Int)<n:=(by omega);obtain⟨L,hL⟩:∃L,(ps.take k).map (fun p=>Qc0 sl p (Qbv (Qbk l p)))=L:=⟨_,rfl⟩;have HLL2:=Lh hL;have HLN:Hid (L.length≤1048576):=Lh (by rw[←hL,qM,qK];omega);rw[hL] at HO;clear hy hbo hno hb e1 e2 hp hL;go_upto_region 5 with(fail);obtain⟨X1,hX1⟩:∃q,wr.heap.size=q:=⟨_,rfl⟩;obtain⟨w2,hw2⟩:∃q,wr.alloc (.cells #[.int .i64 a,.int .i64 z,.int .i64 en,.int .i64 ve,.slice Ap body.length cp,.slice Aq notes.length cq] 43)=q:=⟨_,rfl⟩;have hb2:Below wr.heap.size wr w2:=by rw[←hw2];exact bR.alloc nL _
   have hx1:ABox w2 X1 43 [.int .i64 a,.int .i64 z,.int .i64 en,.int .i64 ve,.slice Ap body.length cp,.slice Aq notes.length cq]:=(by rw[←hw2,←hX1];exact heap_alloc_new wr _);rw[hw2,hX1];have HXP:=Lh hx1;have HB2:=Lh hb2;have HBW2:Hid (Below w.heap.size w w2):=Lh (HBW.out.trans (hb2.mono HBW.out.size));have HXB:Hid (ABox w2 w.heap.size 25 [.int .i64 m,.int .i64 h,.slice A l.length c]):=Lh ((HX1.out.to HB.out).to hb2);have b0:=HXB.out.cell 0 rfl;have b1:=HXB.out.cell 1 rfl;have b2:=HXB.out.cell 2 rfl;have q2:=hx1.cell 2 rfl;have q3:=hx1.cell 3 rfl;clear hX1 hw2 hb2 hx1 p0 p1 p2 p3 p4 p5
   go_upto_region 6 with(first|(go_at_call 27;refine(HTX.out w2 HBW2.out ⟨a,z,en,ve,body,notes⟩).mono ?_;rintro e w3 ⟨⟨Aa,ca,Ab,cb,rfl,hta,htb⟩,hb3⟩;have HTA:=Lh hta;have HTB2:=Lh htb;have HB3:=Lh hb3;clear hta htb hb3 b0 b1 b2 q2 q3)|fail)
   obtain⟨tx,htx⟩:∃t,Qbk l ⟨a,z,en,ve,body,notes⟩=t:=⟨_,rfl⟩;have HTX9:=Lh htx;have htx':(hasT l en ve).getD ⟨[],[]⟩=tx:=htx;have HY2:=HY;rw[htx'] at HTA HTB2 ⊢;obtain⟨X2,hX2⟩:∃q,w3.heap.size=q:=⟨_,rfl⟩;obtain⟨w4,hw4⟩:∃q,w3.alloc (.cells #[.slice Aa tx.a.length ca,.slice Ab tx.b.length cb] 36)=q:=⟨_,rfl⟩;have hb4:Below w3.heap.size w3 w4:=(by rw[←hw4];exact bR.alloc nL _);have hx2:ABox w4 X2 36 [.slice Aa tx.a.length ca,.slice Ab tx.b.length cb]:=(by rw[←hw4,←hX2];exact heap_alloc_new w3 _);rw[hw4,hX2];have hb24:Below w2.heap.size w2 w4:=HB3.out.trans (hb4.mono HB3.out.size);have HBr4:Hid (Below wr.heap.size wr w4):=Lh (HB2.out.trans (hb24.mono HB2.out.size));have HB14:Hid (Below w1.heap.size w1 w4):=Lh (HB.out.trans (HBr4.out.mono HB.out.size));have HBW4:Hid (Below w.heap.size w w4):=Lh (HBW.out.trans (HBr4.out.mono HBW.out.size));have hxp:=HXP.out.to hb24;have p0:=hxp.cell 0 rfl;have p1:=hxp.cell 1 rfl;have p2:=hxp.cell 2 rfl;have p3:=hxp.cell 3 rfl;have p4:=hxp.cell 4 rfl;have p5:=hxp.cell 5 rfl;have t0:=hx2.cell 0 rfl;have t1:=hx2.cell 1 rfl;have hsb:∀{α:Type} [Rep α] {S:Nat→Prop} {A:Option Addr} {c:Nat} {l:List α},Sl w3 (fun b=>b<w3.heap.size) A c l→Sl w4 (fun b=>b<w4.heap.size) A c l:=fun h=>h.to hb4
   have HSH:=Lh (sheet_any a z en ve Ap Aq cp cq body notes Aa Ab ca cb tx.a tx.b As cs ns sl w4 (((HBO.out.mono (fun _ _ hh=>hh)).to HBr4.out)) (((HNO.out.mono (fun _ _ hh=>hh)).to HBr4.out)) HY.out.bl HY.out.nl (by have:=HY.out.inl;rw[htx] at this;exact this) (by have:=HY.out.num;dsimp only at this;omega) (by have:=HY.out.suf;dsimp only at this;omega) (HTA.out.to hb4) (HTB2.out.to hb4) (by have:=HY.out.la;rw[htx] at this;exact this) (by have:=HY.out.lb;rw[htx] at this;exact this) (by have:=HY.out.tt;rw[htx] at this;exact this) (by have:=HY.out.ws;rw[htx] at this;exact this) (HSL.out w4 HBW4.out) HNS.out HSZ.out HG.out (HTB.out w4 HBW4.out));have HO4:=Lh (HO.out.below HBr4.out);have hln:L.length=k:=(by rw[←HLL2.out,qM,qK];have:=HN.out;omega);obtain⟨A5,c5,rfl,-⟩:=HO4.out.form;have HSE:Hid (Qc0 sl ⟨a,z,en,ve,body,notes⟩ (Qbv (Qbk l ⟨a,z,en,ve,body,notes⟩))=⟨labT a z,body.map (Qbe sl 0 en ve (Qbv ⟨tx.a,tx.b⟩)),notes.map (Qbe sl 0 en ve (Qbv ⟨tx.a,tx.b⟩))⟩):=Lh (by rw[htx];unfold Qc0 labS;rfl);have HBL:=Lh HY.out.bl;have HNL:=Lh HY.out.nl;dsimp only at HBL HNL
   have HRE:∀(w5:World) {A6 A7:Option Addr} {c6 c7:Nat},Below w4.heap.size w4 w5→Sl w5 (Up w4.heap.size) A6 c6 (body.map (Qbe sl 0 en ve (Qbv ⟨tx.a,tx.b⟩)))→Sl w5 (Up w4.heap.size) A7 c7 (notes.map (Qbe sl 0 en ve (Qbv ⟨tx.a,tx.b⟩)))→Rep.R (w5.alloc (.cells #[.string (labT a z),.slice A6 body.length c6,.slice A7 notes.length c7] 46)) (fun b=>some b≠(Value.slice A5 L.length c5).ownBlock) [.string (labT a z),.slice A6 body.length c6,.slice A7 notes.length c7] (⟨labT a z,body.map (Qbe sl 0 en ve (Qbv ⟨tx.a,tx.b⟩)),notes.map (Qbe sl 0 en ve (Qbv ⟨tx.a,tx.b⟩))⟩:SheetP):=by
    intro w5 A6 A7 c6 c7 hb5 h6 h7;have hba:Below w5.heap.size w5 (w5.alloc (.cells #[.string (labT a z),.slice A6 body.length c6,.slice A7 notes.length c7] 46)):=bR.alloc nL _;have hno:∀i,w4.heap.size≤i→some i≠(Value.slice A5 L.length c5).ownBlock:=fun i hi e=>by have:=(HO4.out.lt i e.symm).2;omega
    exact⟨_,_,rfl,⟨A6,c6,by simp,(h6.keep (Kept.all hba) hba.size).mono (fun i hi _=>hno i hi),by rw[qM];have:=HBL.out;omega⟩,⟨A7,c7,by simp,(h7.keep (Kept.all hba) hba.size).mono (fun i hi _=>hno i hi),by rw[qM];have:=HNL.out;omega⟩⟩
   clear htx htx' hX2 hw4 hb4 hx2 hb24 hxp hsb hln
   go_wp2_with (first|(go_at_call 19;refine HSH.out.mono ?_;rintro e w5 ⟨A6,c6,A7,c7,rfl,hs6,hs7,hb5⟩;have HS6:=Lh hs6;have HS7:=Lh hs7;have HB5:=Lh hb5;clear hs6 hs7 hb5 p0 p1 p2 p3 p4 p5 t0 t1)|(at_builtin;refine Qav (α:=SheetP) _ rfl (.tmp 26) (.tmp 31) 29 rfl w1.heap.size 46 (.agg #[.string ⟨#[]⟩,.slice none 0 0,.slice none 0 0]) 64 Tryz.underlying29 sheet_info rfl (show 0<3 by decide) (.slice A5 L.length c5) L rfl ((HO4.out.below HB5.out).alloc _) w5.heap.size _ ⟨labT a z,body.map (Qbe sl 0 en ve (Qbv ⟨tx.a,tx.b⟩)),notes.map (Qbe sl 0 en ve (Qbv ⟨tx.a,tx.b⟩))⟩ (0,0) 46 rfl (heap_alloc_new w5 _) (HRE w5 HB5.out HS6.out HS7.out) (by have:=HLN.out;omega) (by have:=HLN.out;omega) (by have:=HB14.out.size;have:=HB5.out.size;simp;omega) _ rfl ?_;intro g9 p9 w9 hown9 hg9 hat9 hlt9;have HON:Hid (Own w9 w1.heap.size 46 (.slice (some ⟨g9,0,none⟩) (L.length+1) p9) ((ps.take (k+1)).map fun p=>Qc0 sl p (Qbv (Qbk l p)))):=Lh (by rw[HTK.out,List.map_append,HLL2.out,List.map_cons,List.map_nil,HSE.out];exact hown9);have HBN:Hid (Below w1.heap.size w1 w9):=Lh (((HB14.out.trans (HB5.out.mono HB14.out.size)).alloc (by have:=HB14.out.size;have:=HB5.out.size;omega) _).grown hg9 (by have:=HB14.out.size;have:=HB5.out.size;simp;omega) (fun r hr=>(HO4.out.lt r hr).1));clear hown9 hg9 hat9 hlt9)|fail)
   go_roundw;(case rel=>exact⟨k+1,by omega,by go_num,HON,HBN.out⟩);case measure=>(first|(simp[intOf];done)|(simp[intOf];omega))
  ·obtain rfl:k=n:=by omega
   have hki:¬(k:Int)<(k:Int):=(by omega);have ek:ps.take k=ps:=List.take_of_length_le (by rw[HN.out];exact Nat.le_refl _);rw[ek] at HO;have HSP:Hid (QaY m h l sl=ps.map fun p=>Qc0 sl p (Qbv (Qbk l p))):=Lh (by unfold QaY;rw[HPS.out]);clear ek hb;go_wp2_with fail;go_ret;exact⟨_,rfl,by rw[HSP.out];exact HO.out.re (by have:=HB1.out.size;omega),HBW.out⟩
theorem width_size {s:ByteArray}(h:1≤QaR s):s.size≤40:=by
 unfold QaR at h;split at h
 ·omega
 ·omega
theorem FineT.ws {a b:List (List Word)}(H:FineT a b):∀y∈Qbv ⟨a,b⟩,y.s.size≤1000:=by
 intro y hy;unfold Qbv at hy;simp only[List.mem_flatten] at hy;obtain⟨p,hp,hy⟩:=hy;have:=width_size (H.w p hp y hy).1.1;omega
theorem wrong_fine {m h:Int}{a b:List (List Word)}(H:Qbo m h a b=0):FineT a b:=by
 unfold Qbo at H;split at H
 ·rename_i h1;exact absurd H h1
 ·rename_i h1;exact(Qba (m:=m) (h:=h) (Classical.not_not.1 h1)).1
theorem GoodB.pgv {m h:Int}{l:List SectP}(H:GoodB m h l){p:PageP}(hp:p∈Qak m h l)(h1:1≤p.num∧p.num≤16384)(h2:0≤p.suf∧p.suf≤16384)(h3:p.body.length≤1048576)(h4:p.notes.length≤1048576):PgV l p:=by
 obtain⟨t,ht,hw,-,hi⟩:=H.text p hp;have e:Qbk l p=t:=by unfold Qbk;rw[ht];rfl
 have F:=wrong_fine hw;exact⟨h1,h2,h3,h4,by rw[e];exact F.la,by rw[e];exact F.lb,by rw[e];exact Nat.le_trans F.tot (by decide),by rw[e];exact F.ws,by rw[e];exact hi⟩
structure MarkP where
 br:Int
 num:Int
 suf:Int
 line:Int
 words:ByteArray
 deriving DecidableEq
/-! The runs are closed and open ones. -/
/-! The marks of a line,up to word number k. -/
section
variable {sl:List Seal} {gs br:Int} {p:PageP} {ws:List Word} {x:LineP} {i k:Nat}
end
/-! The same runs,with the open one apart. -/
end Go.Proofs.YtegaapiocihcpaaGreatDoor
