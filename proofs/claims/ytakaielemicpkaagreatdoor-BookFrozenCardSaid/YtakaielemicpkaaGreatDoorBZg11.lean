/- Texts of BookC10. -/
import Derived.Test.YtakaielemicpkaaGreatDoorBZg10
set_option maxHeartbeats 4000000
namespace Go.Proofs.YtakaielemicpkaaGreatDoor
open Go.RowKit
structure SM (w:World)(A:Option Addr)(c:Nat)(l:List SectP):Prop where
 t:Tabs w
 s:Sl w (fun b=>b<w.heap.size) A c l
theorem SM.to {w w':World}{A:Option Addr}{c:Nat}{l:List SectP}(h:SM w A c l)(hb:Below w.heap.size w w'):SM w' A c l:=⟨h.t.to hb,h.s.to hb⟩
def ExOk (l:List SectP):Prop:=QaO l∧WfS l∧(Qac 500 4 l).length≤100
instance (l:List (List Word)):Decidable (Qam l):=by unfold Qam;infer_instance
instance (s:SectP):Decidable (Qdw s):=by unfold Qdw;infer_instance
instance (l:List SectP):Decidable (QaO l):=by unfold QaO;infer_instance
instance (l:List SectP):Decidable (WfS l):=by unfold WfS;infer_instance
instance (l:List SectP):Decidable (ExOk l):=by unfold ExOk;infer_instance
theorem SM.book {w:World}{A:Option Addr}{c:Nat}{l:List SectP}(h:SM w A c l)(hl:ExOk l):BookOk w 500 4 A c l:=⟨h.t.1,h.s,hl.1,hl.2.1,⟨by decide,by decide⟩,by have:=hl.2.2;omega⟩
theorem fits_ok {m h:Int}{v:Value}{n:Nat}(hn:n≤16384):QaV m h v n=.tuple #[.agg #[.int .i64 m,.int .i64 h,v],.int .i64 0]:=by unfold QaV;rw[if_neg (by omega)]
theorem OwnP.sm {w w':World}{B:Nat}{v:Value}{l:List SectP}{P:Nat→Prop}(h:OwnP w' B 45 v l P)(hT:Tabs w)(hb:Below w.heap.size w w'):∃A c,v=.slice A l.length c∧SM w' A c l∧Sl w' P A c l:=by
 obtain⟨A,c,e,hs⟩:=h.sl;exact⟨A,c,e,⟨hT.to hb,hs.mono fun _ _ h=>h⟩,hs⟩
theorem Qdu (n:Nat)(hn:n≤1000):Qam [List.replicate n Qbf]:=⟨by simp,fun p hp=>by rw[List.mem_singleton] at hp;subst hp;simp;omega⟩
def Gives (w:World)(l:List SectP)(e:Ending)(w':World):Prop:=∃A c,e=.returned (.tuple #[.agg #[.int .i64 500,.int .i64 4,.slice A l.length c],.int .i64 0])∧SM w' A c l∧Sl w' (Up w.heap.size) A c l∧Below w.heap.size w w'
theorem QeA {w:World}{A A1:Option Addr}{c c1:Nat}{l l2:List SectP}(n:Nat)(hn:n≤1000)(e v:Int)(hl:ExOk l)(hl2:ExOk l2)(h2:l++[(⟨e,false,[v],[Qb7 n]⟩:SectP)]=l2)(hm:SM w A c l)(ht:Sl w (fun b=>b<w.heap.size) A1 c1 [List.replicate n Qbf])(hf:QaC l e= -1)(he:0≤e∧e≤65535)(hv:0≤v∧v≤2147483647)(hE:Qau 500 4 [List.replicate n Qbf] []=0)(hln:l.length<100):
 Calls Tryz.prog 36 #[.agg #[.int .i64 500,.int .i64 4,.slice A l.length c],.int .i64 e,.int .i64 v,.agg #[.slice A1 1 c1,.slice none 0 0]] w (Gives w l2):=by
 refine(add_ok A c l 500 4 e v A1 none c1 0 [List.replicate n Qbf] [] w hm.t.1 hm.s hl.1 hl.2.1 ⟨by decide,by decide⟩ ht (Sl.nil _ _ _ _ (by simp[maxLen])) (Qdu n hn) ⟨by simp,by simp⟩ hf he hv hE (by omega) (by rw[show(⟨[List.replicate n Qbf],[]⟩:TextP)=Qb7 n from rfl,h2];have:=hl2.2.2;omega)).mono ?_;rintro x W' ⟨u,rfl,ho,hb⟩;rw[show(⟨[List.replicate n Qbf],[]⟩:TextP)=Qb7 n from rfl,h2] at*;obtain⟨A5,c5,rfl,hs,hs2⟩:=ho.sm hm.t hb;exact⟨A5,c5,by rw[fits_ok (by have:=hl2.2.2;omega)],hs,hs2,hb⟩
theorem QcD {w:World}{A A1:Option Addr}{c c1:Nat}{l l2:List SectP}(n:Nat)(hn:n≤1000)(e v:Int)(k:Nat)(s:SectP)(hl:ExOk l)(hl2:ExOk l2)(h2:l.set k (Qaz s v (Qb7 n))=l2)(hm:SM w A c l)(ht:Sl w (fun b=>b<w.heap.size) A1 c1 [List.replicate n Qbf])(hf:QaC l e=(k:Int))(hk:k<l.length)(hks:l[k]? =some s)(hv:0≤v∧v≤2147483647)(hnv:v∉s.vers)(hE:Qau 500 4 [List.replicate n Qbf] []=0)(hlim:(Qaz s v (Qb7 n)).vers.length≤100):
 Calls Tryz.prog 38 #[.agg #[.int .i64 500,.int .i64 4,.slice A l.length c],.int .i64 e,.int .i64 v,.agg #[.slice A1 1 c1,.slice none 0 0]] w (Gives w l2):=by
 cases hfr:s.frozen with
 |true=>
  refine(QcN A c l 500 4 e v A1 none c1 0 [List.replicate n Qbf] [] w hm.t.1 hm.s hl.1 hl.2.1 ⟨by decide,by decide⟩ ht (Sl.nil _ _ _ _ (by simp[maxLen])) (Qdu n hn) ⟨by simp,by simp⟩ k hk hf s hks hfr hv hnv hE hlim (by rw[show(⟨[List.replicate n Qbf],[]⟩:TextP)=Qb7 n from rfl,h2];have:=hl2.2.2;omega)).mono ?_;rintro x W' ⟨u,rfl,ho,hb⟩;rw[show(⟨[List.replicate n Qbf],[]⟩:TextP)=Qb7 n from rfl,h2] at*;obtain⟨A5,c5,rfl,hs,hs2⟩:=ho.sm hm.t hb;exact⟨A5,c5,by rw[fits_ok (by have:=hl2.2.2;omega)],hs,hs2,hb⟩
 |false=>
  refine(QdF A c l 500 4 e v A1 none c1 0 [List.replicate n Qbf] [] w hm.t.1 hm.s hl.1 hl.2.1 ⟨by decide,by decide⟩ ht (Sl.nil _ _ _ _ (by simp[maxLen])) (Qdu n hn) ⟨by simp,by simp⟩ k hk hf s hks hfr hv hnv hE hlim (by rw[show(⟨[List.replicate n Qbf],[]⟩:TextP)=Qb7 n from rfl,h2];have:=hl2.2.2;omega)).mono ?_;rintro x W' ⟨u,rfl,ho,hb⟩;rw[show(⟨[List.replicate n Qbf],[]⟩:TextP)=Qb7 n from rfl,h2] at*;obtain⟨A5,c5,rfl,hs,hs2⟩:=ho.sm hm.t hb;exact⟨A5,c5,by rw[fits_ok (by have:=hl2.2.2;omega)],hs,hs2,hb⟩
theorem ex_strike {w:World}{A:Option Addr}{c:Nat}{l l2:List SectP}(e:Int)(k:Nat)(hl:ExOk l)(h2:QaM l k=l2)(hm:SM w A c l)(hf:QaC l e=(k:Int))(hk:k<l.length):
 Calls Tryz.prog 39 #[.agg #[.int .i64 500,.int .i64 4,.slice A l.length c],.int .i64 e] w (Gives w l2):=by
 refine(strike_hit A c l 500 4 e w hm.s hl.1 k hk hf).mono ?_;rintro x W' ⟨u,rfl,ho,hb⟩;rw[h2] at ho;obtain⟨A5,c5,rfl,hs,hs2⟩:=ho.sm hm.t hb;exact⟨A5,c5,rfl,hs,hs2,hb⟩
theorem ex_freeze {w:World}{A:Option Addr}{c:Nat}{l l2:List SectP}(hl:ExOk l)(h2:l.map frz=l2)(hm:SM w A c l):
 Calls Tryz.prog 28 #[.agg #[.int .i64 500,.int .i64 4,.slice A l.length c]] w fun e w'=>∃A c,e=.returned (.agg #[.int .i64 500,.int .i64 4,.slice A l2.length c])∧SM w' A c l2∧Sl w' (Up w.heap.size) A c l2∧Below w.heap.size w w':=by
 refine(Qdo A c l 500 4 w hm.s hl.1).mono ?_;rintro x W' ⟨u,rfl,ho,hb⟩;rw[h2] at ho;obtain⟨A5,c5,rfl,hs,hs2⟩:=ho.sm hm.t hb;exact⟨A5,c5,rfl,hs,hs2,hb⟩
theorem QbC {w:World}{A:Option Addr}{c:Nat}{l:List SectP}{s:ByteArray}(hl:ExOk l)(hm:SM w A c l)(hL:Qd7 (Qac 500 4 l))(hs:labsT (Qac 500 4 l)=s):
 Calls Tryz.prog 40 #[.agg #[.int .i64 500,.int .i64 4,.slice A l.length c]] w fun e w'=>e=.returned (.string s)∧Below w.heap.size w w':=by
 rw[←hs];exact labels_any (hm.book hl) hm.t hL
theorem ex_where {w:World}{A:Option Addr}{c:Nat}{l:List SectP}{e v wd n s:Int}{i:Nat}(hl:ExOk l)(hm:SM w A c l)(h:Qbb e v wd (Qac 500 4 l)=some (n,s,i)):
 Calls Tryz.prog 18 #[.agg #[.int .i64 500,.int .i64 4,.slice A l.length c],.int .i64 e,.int .i64 v,.int .i64 wd] w fun x w'=>x=.returned (.tuple #[.agg #[.int .i64 n,.int .i64 s],.int .i64 (i:Int),.bool true])∧Below w.heap.size w w':=by
 refine(where_any (hm.book hl) e v wd).mono ?_;rintro x w' ⟨rfl,hb⟩;exact⟨by rw[h];rfl,hb⟩
theorem ex_oks:(ExOk []∧ExOk exA∧ExOk exB∧ExOk exF)∧(ExOk exC∧ExOk exD)∧(ExOk exI∧ExOk exK)∧ExOk exM:=by decide +kernel
theorem Own.slB {α:Type}[Rep α][Flat α]{w:World}{base:Nat}{e:TypeId}{v:Value}{l:List α}(h:Own w base e v l):∃A c,v=.slice A l.length c∧Sl w (fun b=>v.ownBlock=some b) A c l:=by
 obtain⟨A,c,rfl,hs⟩:=h.sl;refine⟨A,c,rfl,hs.1,hs.2.1,fun hn=>?_⟩;obtain⟨b,o,rfl,hb,hlt,hx⟩:=hs.2.2 hn;refine⟨b,o,rfl,rfl,hlt,fun i hi=>?_⟩;obtain⟨es,hr,hc⟩:=hx i hi;exact⟨es,Flat.flat hr,hc⟩
theorem Nest.slB {w:World}{B:Nat→Prop}{te ti:TypeId}{v:Value}{us:List Raw}{ls:List (List Word)}(h:Nest w B te ti v us ls)(hlen:∀l∈ls,l.length<9223372036854775808):∃A c,v=.slice A ls.length c∧Sl w B A c ls:=by
 obtain⟨A,c,e0,hs⟩:=h.own.sl;refine⟨A,c,by rw[e0,h.len],by rw[←h.len];exact hs.1,hs.2.1,fun hn=>?_⟩;obtain⟨b,o,rfl,hb,hlt,hx⟩:=hs.2.2 (by rw[h.len];exact hn);refine⟨b,o,rfl,h.mv b (by rw[e0];rfl),hlt,fun i hi=>?_⟩;have hi':i<us.length:=by rw[h.len];exact hi
 obtain⟨es,hr,hc⟩:=hx i hi';obtain⟨A1,c1,e1,hs1⟩:=(h.inn i hi' hi).slB;have hr':es=[us[i].v]:=hr;exact⟨es,⟨A1,c1,by rw[hr',e1],hs1.mono fun g hg _=>h.mi i hi' g hg,hlen _ (List.getElem_mem hi)⟩,hc⟩
def IsT (w:World)(e:Ending)(w':World):Prop:=
 ∃A c B d ls ns,e=.returned (.agg #[.slice A ls.length c,.slice B ns.length d])∧GText ls ns∧Rep.R w' (fun b=>w.heap.size≤b) [.slice A ls.length c,.slice B ns.length d] (⟨ls,ns⟩:TextP)∧Below w.heap.size w w'
theorem IsText.own {w w':World}{e:Ending}(h:IsText w e w'):IsT w e w':=by
 obtain⟨v,vn,ls,ns,rfl,hg,⟨B,us,un,h1,h2⟩,hb⟩:=h;have hle:=h1.own.lt;have hl4:=hg.l4;have hn3:=hg.n3;obtain⟨g0,_,_,_,_,hg0,_⟩:=h1.at_ (k:=0) (by have:=hg.l1;omega);obtain⟨A,c,rfl,hs⟩:=h1.slB hg.lens.1;obtain⟨A',c',rfl,hs'⟩:=h2.slB hg.lens.2;refine⟨A,c,A',c',ls,ns,rfl,hg,⟨_,_,rfl,⟨A,c,rfl,hs.mono fun i hi _=>hi.1,by dsimp only;omega⟩,⟨A',c',rfl,hs'.mono fun i hi _=>by have:B≤i:=hi;have:=hg0.1;have:=hg0.2;omega,by dsimp only;omega⟩⟩,hb⟩
theorem rtext_any (A:Option Addr)(c:Nat)(l:List Int)(k:Nat)(_:k≤1000)(w:World)(hl:Sl w (fun b=>b<w.heap.size) A c l):
 Calls Tryz.prog 31 #[.slice A l.length c,.int .i64 (k:Int)] w (IsT w):=by
 have hl1:=hl.1;have hl2:c≤9223372036854775807:=hl.2.1;obtain⟨j,hj⟩:∃j,min k l.length=j:=⟨_,rfl⟩;have hjl:j≤l.length:=by omega
 have hd:=hl.drop j hjl;have hm:min (k:Int) (l.length:Int)=(j:Int):=by omega
 have hlen:(l.drop j).length=l.length-j:=List.length_drop;obtain⟨A2,hA2⟩:∃A2,(if c=j then A else A.map (·.add (j*Rep.size Int)))=A2:=⟨_,rfl⟩;rw[hA2] at hd;have hb0:=(Below.refl w.heap.size w).alloc nL (.cells #[.slice none 0 0,.slice none 0 0] 50);have hx0:ABox (w.alloc (.cells #[.slice none 0 0,.slice none 0 0] 50)) w.heap.size 50 [.slice none 0 0,.slice none 0 0]:=heap_alloc_new w _;have hz:(w.alloc (.cells #[.slice none 0 0,.slice none 0 0] 50)).heap.size=w.heap.size+1:=by simp
 have HT:=Lh (text_any A2 (c-j) (l.drop j) _ (hd.to hb0));rw[hlen] at HT;have HJ:=Lh hj;have fin:∀(a b:Int),a=b→b=a:=fun _ _ h=>h.symm
 clear hd hlen hl hj fin;have hjI:(j:Int)≤(l.length:Int):=by omega
 have hA3:(if c=j then(.slice A (l.length-j) (c-j):Value) else .slice (A.map (·.add j)) (l.length-j) (c-j))=.slice A2 (l.length-j) (c-j):=by
  rw[←hA2];split<;>simp[Rep.size]
 have HA3:=Lh hA3;clear hA2 hA3;go_enter Tryz.func31,Tryz.ntmps31;go_upto_region 1 with(fail);generalize w.alloc (.cells #[.slice none 0 0,.slice none 0 0] 50)=w0 at*;have HB0:=Lh hb0;have HX0:=Lh hx0;have HZ:=Lh hz;clear hb0 hx0 hz;by_cases hc:c=j
 ·have h3:A2=A:=by
   have h:=HA3.out;rw[if_pos hc] at h;injection h with h
   exact h.symm
  rw[h3] at HT;have hlj:l.length=j:=(by omega);subst hc;rw[hlj,Nat.sub_self] at HT;clear HA3;rw[hlj] at hm ⊢;clear hlj hl1 hjl hjI HJ;clear h3
  go_wp2_with (first|(go_at_call 61;refine HT.out.mono ?_;intro e w1 hT1;obtain⟨A5,c5,B5,d5,ls,ns,rfl,hg,hN,hb⟩:=hT1.own;have HG:=Lh hg;have HN:=Lh hN;have HB:=Lh hb;have x0:=(HX0.out.to hb).cell 0 rfl;have x1:=(HX0.out.to hb).cell 1 rfl;have f0:=(HX0.out.to hb).fz 0;have f1:=(HX0.out.to hb).fz 1;clear hg hN hb hT1)|fail)
  refine bodyPost_ret (v:=.agg #[.slice A5 ls.length c5,.slice B5 ns.length d5]) (QaW Tryz.results31 _ _ w.heap.size _ [.slice A5 ls.length c5,.slice B5 ns.length d5] _ rfl (by simpa using((HX0.out.to HB.out).set 0 (.slice A5 ls.length c5)).set 1 (.slice B5 ns.length d5)) Tryz.underlying50 rfl (by kernel_rfl)) rfl ⟨A5,c5,B5,d5,ls,ns,rfl,HG.out,?_,?_⟩
  ·have e1:∀g,w.heap.size<g→((w1.setCell ⟨w.heap.size,0,none⟩ (.slice A5 ls.length c5)).setCell ⟨w.heap.size,1,none⟩ (.slice B5 ns.length d5)).heap[g]? =w1.heap[g]? :=fun g hg=>(Qaa _ _ 1 _ (by omega)).trans (Qaa _ _ 0 _ (by omega))
   exact Rep.mono (Rep.keep HN.out (fun g (hg:w0.heap.size≤g) _=>e1 g (by have:=HZ.out;omega))) (fun g (hg:w0.heap.size≤g) _=>by have:=HZ.out;omega)
  ·exact((HB0.out.trans (HB.out.mono HB0.out.size)).setCell (p:=⟨w.heap.size,0,none⟩) nL _).setCell (p:=⟨w.heap.size,1,none⟩) nL _
 ·have h3:A2=A.map (·.add j):=by
   have h:=HA3.out;rw[if_neg hc] at h;injection h with h
   exact h.symm
  rw[h3] at HT;clear h3
  go_wp2_with (first|(go_at_call 61;refine HT.out.mono ?_;intro e w1 hT1;obtain⟨A5,c5,B5,d5,ls,ns,rfl,hg,hN,hb⟩:=hT1.own;have HG:=Lh hg;have HN:=Lh hN;have HB:=Lh hb;have x0:=(HX0.out.to hb).cell 0 rfl;have x1:=(HX0.out.to hb).cell 1 rfl;have f0:=(HX0.out.to hb).fz 0;have f1:=(HX0.out.to hb).fz 1;clear hg hN hb hT1)|fail)
  refine bodyPost_ret (v:=.agg #[.slice A5 ls.length c5,.slice B5 ns.length d5]) (QaW Tryz.results31 _ _ w.heap.size _ [.slice A5 ls.length c5,.slice B5 ns.length d5] _ rfl (by simpa using((HX0.out.to HB.out).set 0 (.slice A5 ls.length c5)).set 1 (.slice B5 ns.length d5)) Tryz.underlying50 rfl (by kernel_rfl)) rfl ⟨A5,c5,B5,d5,ls,ns,rfl,HG.out,?_,?_⟩
  ·have e1:∀g,w.heap.size<g→((w1.setCell ⟨w.heap.size,0,none⟩ (.slice A5 ls.length c5)).setCell ⟨w.heap.size,1,none⟩ (.slice B5 ns.length d5)).heap[g]? =w1.heap[g]? :=fun g hg=>(Qaa _ _ 1 _ (by omega)).trans (Qaa _ _ 0 _ (by omega))
   exact Rep.mono (Rep.keep HN.out (fun g (hg:w0.heap.size≤g) _=>e1 g (by have:=HZ.out;omega))) (fun g (hg:w0.heap.size≤g) _=>by have:=HZ.out;omega)
  ·exact((HB0.out.trans (HB.out.mono HB0.out.size)).setCell (p:=⟨w.heap.size,0,none⟩) nL _).setCell (p:=⟨w.heap.size,1,none⟩) nL _
def Qb2 (i k:Nat):List Int:=(10-(i:Int))::(List.range k).map (fun j:Nat=>30+7*(i:Int)-3*(j:Int))
theorem versG_succ (i k:Nat):Qb2 i k++[30+7*(i:Int)-3*(k:Int)]=Qb2 i (k+1):=by
 unfold Qb2;rw[List.range_succ,List.map_append];rfl
theorem QbP (i k:Nat):(Qb2 i k).length=k+1:=by unfold Qb2;simp
def GSect (f i:Nat)(s:SectP):Prop:=
 (∃d:Nat,d≤1∧s.entry=2*(i:Int)+d)∧s.frozen=decide (i<f)∧∃j,j≤2∧(s.frozen=false→j=0)∧s.vers=Qb2 i j∧s.texts.length=j+1∧∀t∈s.texts,GText t.a t.b
structure GBk (m h:Int)(l:List SectP):Prop where
 m1:500≤m
 m2:m≤1080
 h1:4≤h
 h2:h≤8
 n:l.length≤4
 s:∃f,∀i (hi:i<l.length),GSect f i l[i]
structure OB (w:World)(m h:Int)(f k:Nat)(v:Value)(l:List SectP)(W:World):Prop where
 r:ABox W w.heap.size 27 [.int .i64 0,.int .i64 0,.slice none 0 0]
 b:ABox W (w.heap.size+1) 27 [.int .i64 m,.int .i64 h,v]
 o:OwnP W w.heap.size 45 v l (fun i=>w.heap.size+1<i)
 n:l.length=k
 g:∀i (hi:i<l.length),GSect f i l[i]
 bl:Below w.heap.size w W
structure IB (B X:Nat)(wr:World)(e:Int)(fr:Bool)(vv vt:Value)(vs:List Int)(ts:List TextP)(W:World):Prop where
 s:ABox W X 45 [.int .i64 e,.bool fr,vv,vt]
 sx:B≤X
 v:Own W B 3 vv vs
 vx:vv.ownBlock≠some X
 t:OwnP W B 50 vt ts (fun b=>B≤b∧b≠X∧some b≠vv.ownBlock)
 g:∀t∈ts,GText t.a t.b
 bl:Below B wr W
section
variable {w W W' wr:World} {m h:Int} {f k:Nat} {v:Value} {l:List SectP}
theorem OB.to (H:OB w m h f k v l W)(hb:Below W.heap.size W W'):OB w m h f k v l W':=⟨H.r.to hb,H.b.to hb,H.o.below hb,H.n,H.g,H.bl.trans (hb.mono H.bl.size)⟩
theorem OB.lt (H:OB w m h f k v l W):w.heap.size+1<W.heap.size:=by have:=H.b.lt;omega
variable {B X:Nat} {e:Int} {fr:Bool} {vv vt:Value} {vs:List Int} {ts:List TextP}
theorem IB.to (H:IB B X wr e fr vv vt vs ts W)(hB:B≤W.heap.size)(hb:Below W.heap.size W W'):IB B X wr e fr vv vt vs ts W':=⟨H.s.to hb,H.sx,H.v.below hb,H.vx,H.t.below hb,H.g,H.bl.trans (hb.mono hB)⟩
end
theorem IB.secV {B X:Nat}{wr W W1 W':World}{e:Int}{fr:Bool}{vv vt:Value}{vs:List Int}{ts:List TextP}(H:IB B X wr e fr vv vt vs ts W)(h1:Below W.heap.size W W1)(hg:W1.grownBy W' vv.ownBlock):ABox W' X 45 [.int .i64 e,.bool fr,vv,vt]:=
 (hg.block X (by have:=h1.size;have:=H.s.lt;omega) (fun e=>H.vx e.symm)).trans (H.s.to h1)
theorem IB.secT {B X:Nat}{wr W W1 W':World}{e:Int}{fr:Bool}{vv vt:Value}{vs:List Int}{ts:List TextP}(H:IB B X wr e fr vv vt vs ts W)(h1:Below W.heap.size W W1)(hg:W1.grownBy W' vt.ownBlock):ABox W' X 45 [.int .i64 e,.bool fr,vv,vt]:=
 (hg.block X (by have:=h1.size;have:=H.s.lt;omega) (fun e=>(H.t.at_ X e.symm).2.1 rfl)).trans (H.s.to h1)
theorem IB.pushV {B X:Nat}{wr W W1 W':World}{e:Int}{fr:Bool}{vv vt v':Value}{vs vs':List Int}{ts:List TextP}{g:Nat}(H:IB B X wr e fr vv vt vs ts W)(hB:B≤W.heap.size)(h1:Below W.heap.size W W1) (hown:Own W' B 3 v' vs') (hg:W1.grownBy W' vv.ownBlock) (hat:vv.ownBlock=some g∨g=W1.heap.size) (hv:v'.ownBlock=some g):
 IB B X wr e fr v' vt vs' ts (W'.setCell ⟨X,2,none⟩ v'):=by
 have hX:=H.s.lt;have hz:=h1.size
 have hgx:g≠X:=fun he=>by
  rcases hat with h|h
  ·exact H.vx (he▸h)
  ·omega
 have hs:ABox W' X 45 [.int .i64 e,.bool fr,vv,vt]:=(hg.block X (by have:=h1.size;omega) (fun e=>H.vx e.symm)).trans (H.s.to h1);refine⟨?_,H.sx,?_,by rw[hv];intro e;injection e with e;exact hgx e,?_,H.g,?_⟩
 ·have:=hs.set 2 v';simpa using this
 ·refine hown.at_blocks fun b _ hb=>Qaa _ _ _ _ (fun e=>?_)
  rw[hv] at hb;injection hb with hb;omega
 ·refine OwnP.set ?_ _ _ _ (fun i hi=>hi.2.1);refine(((H.t.below h1).mono (Q:=fun b=>(B≤b∧b≠X∧some b≠vv.ownBlock)∧some b≠some g) (fun i hi hl=>⟨hi,fun e=>?_⟩)).grown hg (fun i hi=>hi.1.2.2)).mono (fun i hi _=>⟨hi.1.1,hi.1.2.1,by rw[hv];exact hi.2⟩);injection e with e
  rcases hat with h|h
  ·exact hi.2.2 (by rw[h,e])
  ·omega
 ·exact((H.bl.trans (h1.mono hB)).grown hg (by omega) (fun k hk=>(H.v.lt k hk).1)).setCell (p:=⟨X,2,none⟩) H.sx _
theorem IB.pushT {B X:Nat}{wr W W1 W':World}{e:Int}{fr:Bool}{vv vt v':Value}{vs:List Int}{ts ts':List TextP}{g:Nat}(H:IB B X wr e fr vv vt vs ts W)(hB:B≤W.heap.size)(h1:Below W.heap.size W W1) (hown:Own W' B 50 v' (ts'.map (Av.mk:TextP→Av TextP (fun b=>B≤b∧b≠X∧some b≠vv.ownBlock)))) (hg:W1.grownBy W' vt.ownBlock) (hat:vt.ownBlock=some g∨g=W1.heap.size) (hv:v'.ownBlock=some g) (hgt:∀t∈ts',GText t.a t.b):
 IB B X wr e fr vv v' vs ts' (W'.setCell ⟨X,3,none⟩ v'):=by
 have hX:=H.s.lt;have hz:=h1.size;have htx:vt.ownBlock≠some X:=fun he=>(H.t.at_ X he).2.1 rfl
 have hgx:g≠X:=fun he=>by
  rcases hat with h|h
  ·exact htx (he▸h)
  ·omega
 have hgv:some g≠vv.ownBlock:=fun he=>by
  rcases hat with h|h
  ·exact(H.t.at_ g h).2.2 he
  ·have:=(H.v.lt g he.symm).2;omega
 have hs:ABox W' X 45 [.int .i64 e,.bool fr,vv,vt]:=(hg.block X (by have:=h1.size;omega) (fun e=>htx e.symm)).trans (H.s.to h1);refine⟨?_,H.sx,?_,H.vx,?_,hgt,?_⟩
 ·have:=hs.set 3 v';simpa using this
 ·refine((H.v.below h1).at_blocks (w':=W') fun b hb hv'=>hg.block b hb (fun e=>?_)).at_blocks fun b _ hb=>Qaa _ _ _ _ (fun e=>H.vx (by rw[hb,e]))
  exact(H.t.at_ b e.symm).2.2 hv'.symm
 ·refine OwnP.set (P:=fun b=>B≤b∧b≠X∧some b≠vv.ownBlock) ?_ _ _ _ (fun i hi=>hi.2.1);have hgB:B≤g:=by
   rcases hat with h|h
   ·exact(H.t.lt g h).1
   ·omega
  exact OwnP.ofBd hown (fun k hk=>by rw[hv] at hk;injection hk with hk;subst hk;exact⟨hgB,hgx,hgv⟩)
 ·exact((H.bl.trans (h1.mono hB)).grown hg (by omega) (fun k hk=>(H.t.lt k hk).1)).setCell (p:=⟨X,3,none⟩) H.sx _
theorem Own.repB {α:Type}[Rep α][Flat α]{w:World}{base:Nat}{e:TypeId}{v:Value}{l:List α}{S:Nat→Prop}(h:Own w base e v l)(hl:l.length<9223372036854775808)(hS:∀b,v.ownBlock=some b→S b):Rep.R w S [v] l:=by
 obtain⟨A,c,rfl,hs⟩:=h.slB;exact⟨A,c,rfl,hs.mono fun i hi _=>hS i hi,hl⟩
theorem IB.rep {B X Y:Nat}{wr W W2:World}{e:Int}{fr:Bool}{v vv vt:Value}{vs:List Int}{ts:List TextP}(H:IB B X wr e fr vv vt vs ts W)(hI:I64 e)(h2:Below W.heap.size W W2)(hY:Y<B)(hv:∀g,v.ownBlock=some g→g<B)(hvs:vs.length≤10)(hts:ts.length≤10):
 Rep.R W2 (fun b=>some b≠v.ownBlock∧Y<b) [.int .i64 e,.bool fr,vv,vt] (⟨e,fr,vs,ts⟩:SectP):=by
 refine⟨vv,vt,rfl,hI,(H.v.below h2).repB (by omega) (fun b hb=>?_),(H.t.below h2).rep (by omega) (fun b hb _=>?_)⟩
 ·have:=(H.v.lt b hb).1;exact⟨fun e=>by have:=hv b e.symm;omega,by omega⟩
 ·have:=hb.1;exact⟨fun e=>by have:=hv b e.symm;omega,by omega⟩
theorem OB.book {w W W1 W':World}{m h:Int}{f k:Nat}{v:Value}{l:List SectP}(H:OB w m h f k v l W)(h1:Below W.heap.size W W1)(hg:W1.grownBy W' v.ownBlock):ABox W' (w.heap.size+1) 27 [.int .i64 m,.int .i64 h,v]:=
 (hg.block _ (by have:=h1.size;have:=H.b.lt;omega) (fun e=>by have:=H.o.at_ _ e.symm;omega)).trans (H.b.to h1)
theorem OB.push {w W W1 W':World}{m h:Int}{f k g:Nat}{v v':Value}{l:List SectP}{s:SectP}(H:OB w m h f k v l W)(h1:Below W.heap.size W W1)(hs:GSect f k s) (hown:Own W' w.heap.size 45 v' ((l++[s]).map (Av.mk:SectP→Av SectP (fun i=>w.heap.size+1<i)))) (hg:W1.grownBy W' v.ownBlock) (hat:v.ownBlock=some g∨g=W1.heap.size) (hv:v'.ownBlock=some g):
 OB w m h f (k+1) v' (l++[s]) (W'.setCell ⟨w.heap.size+1,2,none⟩ v'):=by
 have hz:=h1.size;have hlt:=H.lt;have hgB:w.heap.size+1<g:=by
  rcases hat with e|e
  ·exact H.o.at_ g e
  ·omega
 refine⟨?_,?_,?_,by rw[qA,H.n];rfl,fun i hi=>?_,?_⟩
 ·refine ABox.other ?_ (by omega) _ _;exact(hg.block _ (by have:=H.r.lt;omega) (fun e=>by have:=H.o.at_ _ e.symm;omega)).trans (H.r.to h1)
 ·have:=(H.book h1 hg).set 2 v';simpa using this
 ·exact(OwnP.ofBd hown (fun k hk=>by rw[hv] at hk;injection hk with hk;subst hk;exact hgB)).set _ _ _ (fun i hi e=>by omega)
 ·by_cases hi2:i<l.length
  ·rw[List.getElem_append_left hi2];exact H.g i hi2
  ·obtain rfl:i=l.length:=by rw[qA,List.length_singleton] at hi;omega
   have e:(l++[s])[l.length]=s:=(by simp);rw[e,H.n];exact hs
 ·exact((H.bl.trans (h1.mono H.bl.size)).grown hg (by have:=H.bl.size;omega) (fun k hk=>by have:=H.o.at_ k hk;omega)).setCell (p:=⟨w.heap.size+1,2,none⟩) (by show w.heap.size≤w.heap.size+1;omega) _
theorem text_lit {w:World}{B:Nat}{P:Nat→Prop}{va vb:Value}{t:TextP}(hB:B≤w.heap.size)(h:Rep.R w P [va,vb] t)(hP:P w.heap.size):
 OwnP (w.alloc (.cells #[va,vb] 50)) B 50 (.slice (some ⟨w.heap.size,0,none⟩) 1 1) [t] (fun b=>P b∧b≤w.heap.size):=by
 refine⟨?_,fun g hg=>by cases hg;exact⟨hP,Nat.le_refl _⟩⟩;refine Own.lit (α:=Av TextP (fun b=>P b∧b≤w.heap.size)) w B _ #[va,vb] [⟨t⟩] hB (by simp[maxLen]) rfl (Rep.one h) (fun i hi=>?_);obtain rfl:i=0:=by simpa using hi
 show Rep.R _ _ [va,vb] t;exact Rep.mono (Rep.keep (Rep.mono (S':=fun b=>P b∧b<w.heap.size) h (fun b h1 h2=>⟨h1,h2⟩)) (Kept.all (bR.alloc nL _))) (fun b hb _=>⟨by omega,hb.1,by omega⟩)
theorem IB.start {wr w2 w3:World}{B:Nat}{e ver:Int}{fr:Bool}{va vb:Value}{t:TextP}(hB:B=wr.heap.size)(h2:Below B wr w2)(hz:w2.heap.size=B+2)(hr:IRow w2 B 3 [ver])(hv:I64 ver) (hs:ABox w2 (B+1) 45 [.int .i64 e,.bool fr,.slice (some ⟨B,0,none⟩) 1 1,.slice none 0 0]) (h3:Below w2.heap.size w2 w3) (ht:Rep.R w3 (fun b=>w2.heap.size≤b) [va,vb] t) (hg:GText t.a t.b):
 IB B (B+1) wr e fr (.slice (some ⟨B,0,none⟩) 1 1) (.slice (some ⟨w3.heap.size,0,none⟩) 1 1) [ver] [t] ((w3.alloc (.cells #[va,vb] 50)).setCell ⟨B+1,3,none⟩ (.slice (some ⟨w3.heap.size,0,none⟩) 1 1)):=by
 have hz3:=h3.size;have hb4:Below w3.heap.size w3 (w3.alloc (.cells #[va,vb] 50)):=bR.alloc nL _;have hb24:Below w2.heap.size w2 (w3.alloc (.cells #[va,vb] 50)):=h3.trans (hb4.mono hz3);refine⟨?_,by omega,?_,?_,?_,?_,?_⟩
 ·have:=(hs.to hb24).set 3 (.slice (some ⟨w3.heap.size,0,none⟩) 1 1);simpa using this
 ·exact(((hr.to hb24).other (by omega) _ _).own nL (fun x hx=>by rw[List.mem_singleton] at hx;subst hx;exact hv) (by simp[maxLen]))
 ·show some B≠some (B+1);simp
 ·have h5:=text_lit (B:=B) (P:=fun b=>w2.heap.size≤b) (by omega) ht hz3;refine(h5.mono (Q:=fun b=>B≤b∧b≠B+1∧some b≠(Value.slice (some ⟨B,0,none⟩) 1 1).ownBlock) (fun i hi _=>?_)).set _ _ _ (fun i hi=>hi.2.1);have h6:w2.heap.size≤i:=hi.1;refine⟨by omega,by omega,?_⟩;show some i≠some B;intro e;injection e with e;omega
 ·intro x hx;rw[List.mem_singleton] at hx;subst hx;exact hg
 ·exact(h2.trans (hb24.mono (by omega))).setCell (p:=⟨B+1,3,none⟩) (by show B≤B+1;omega) _
set_option maxRecDepth 100000 in
theorem gbook_any (A:Option Addr)(c:Nat)(l:List Int)(w:World)(hl:Sl w (fun b=>b<w.heap.size) A c l):
 Calls Tryz.prog 9 #[.slice A l.length c] w fun e w'=>∃m h A' c' ss,e=.returned (.agg #[.int .i64 m,.int .i64 h,.slice A' ss.length c'])∧GBk m h ss∧Sl w' (fun b=>w.heap.size≤b∧b<w'.heap.size) A' c' ss∧Below w.heap.size w w':=by
 have hb0:=(Below.refl w.heap.size w).alloc nL (.cells #[.int .i64 0,.int .i64 0,.slice none 0 0] 27);have hx0:ABox (w.alloc (.cells #[.int .i64 0,.int .i64 0,.slice none 0 0] 27)) w.heap.size 27 [.int .i64 0,.int .i64 0,.slice none 0 0]:=heap_alloc_new w _;have hz:(w.alloc (.cells #[.int .i64 0,.int .i64 0,.slice none 0 0] 27)).heap.size=w.heap.size+1:=by simp
 have hl0:=hl.to hb0;have HL:=Lh hl;go_enter Tryz.func9,Tryz.ntmps9;go_upto_region 1 with(fail);generalize w.alloc (.cells #[.int .i64 0,.int .i64 0,.slice none 0 0] 27)=w0 at*;have HB0:=Lh hb0;have HX0:=Lh hx0;have HZ:=Lh hz;have HL0:=Lh hl0;clear hb0 hx0 hz hl0 hl;go_wp2_with fail;refine(Qbp A c l 0 30 w0 HL0.out (by decide) (by decide) (by decide)).mono ?_;rintro e _ ⟨pm,rfl,hpm,rfl⟩;have hpm2:(pm:Int)≤29:=by omega
 have hpm0:(0:Int)≤pm:=by omega
 clear hpm;go_wp2_with fail;refine(Qbp A c l 1 5 w0 HL0.out (by decide) (by decide) (by decide)).mono ?_;rintro e _ ⟨ph,rfl,hph,rfl⟩;have hph2:(ph:Int)≤4:=by omega
 have hph0:(0:Int)≤ph:=by omega
 clear hph;go_upto_region 2 with(fail);obtain⟨m,hm⟩:∃m:Int,500+20*(pm:Int)=m:=⟨_,rfl⟩;obtain⟨h,hh⟩:∃h:Int,4+(ph:Int)=h:=⟨_,rfl⟩;rw[hm,hh];have HM:Hid ((500≤m∧m≤1080)∧4≤h∧h≤8):=Lh (by omega);clear hm hh hpm2 hpm0 hph2 hph0;obtain⟨w1,hw1⟩:∃w1,w0.alloc (.cells #[.int .i64 m,.int .i64 h,.slice none 0 0] 27)=w1:=⟨_,rfl⟩;have hb1:Below w0.heap.size w0 w1:=by rw[←hw1];exact bR.alloc nL _
 have hx1:ABox w1 (w.heap.size+1) 27 [.int .i64 m,.int .i64 h,.slice none 0 0]:=by rw[←hw1,←HZ.out];exact heap_alloc_new w0 _
 have HOB0:Hid (∀f,OB w m h f 0 (.slice none 0 0) [] w1):=Lh (fun f=>⟨HX0.out.to hb1,hx1,OwnP.nil _ _ _ _,rfl,fun i hi=>absurd hi (Nat.not_lt_zero _),HB0.out.trans (hb1.mono HB0.out.size)⟩);have HL1:=Lh (HL0.out.to hb1);have HE:Hid (w0.heap.size=w.heap.size+1):=HZ;rw[hw1,HZ.out];clear hw1 hb1 hx1;go_wp2_with fail;refine(Qbp A c l 2 5 w1 HL1.out (by decide) (by decide) (by decide)).mono ?_;rintro e _ ⟨n,rfl,hn,rfl⟩;have hn2:(n:Int)≤4:=by omega
 have hn0:(0:Int)≤n:=by omega
 clear hn;go_wp2_with fail;refine(Qbp A c l 3 ((n:Int)+1) w1 HL1.out (by omega) (by omega) (by decide)).mono ?_;rintro e _ ⟨f,rfl,hf,rfl⟩;have hf2:(f:Int)≤4:=by omega
 have hf0:(0:Int)≤f:=by omega
 clear hf;go_wp2_with fail;go_loopw [6] (fun i wr=>∃k:Nat,k≤n∧i=.int .i64 k∧∃v ss,OB w m h f k v ss wr) (fun i _=>n-(intOf i).toNat);(case atStart=>exact⟨0,by omega,rfl,_,_,HOB0.out f⟩);case round=>
  obtain⟨k,hk,rfl,v,ss,hob⟩:=hrel;have HOB:=Lh hob;clear hob;have hk2:(k:Int)≤4:=(by omega);have hk0:(0:Int)≤k:=(by omega);by_cases hlt:k<n
  ·have hkl:(k:Int)<n:=by omega
   have HLr:=Lh (HL.out.to HOB.out.bl);go_wp2_with fail;refine(Qbp A c l (4+(k:Int)) 2 wr HLr.out (by decide) (by decide) (by omega)).mono ?_;rintro e _ ⟨d,rfl,hd,rfl⟩;have hd2:(d:Int)≤1:=(by omega);have hd0:(0:Int)≤d:=(by omega);clear hd;go_upto_region 8 with(fail);obtain⟨en,hen⟩:∃en:Int,2*(k:Int)+(d:Int)=en:=⟨_,rfl⟩;have HEN:Hid (∃d:Nat,d≤1∧en=2*(k:Int)+d):=Lh ⟨d,by omega,hen.symm⟩;obtain⟨ve,hve⟩:∃ve:Int,10-(k:Int)=ve:=⟨_,rfl⟩;have HI:Hid (I64 en∧I64 ve):=Lh ⟨⟨by omega,by omega⟩,⟨by omega,by omega⟩⟩;obtain⟨fr,hfr⟩:∃fr,decide (k<f)=fr:=⟨_,rfl⟩;have HVE:=Lh hve;have HFR:=Lh hfr;rw[hen,hve,hfr];clear hen hve hd2 hd0 hfr;obtain⟨B,hB⟩:∃B,wr.heap.size=B:=⟨_,rfl⟩;obtain⟨w2,hw2⟩:∃w2,(wr.alloc (.cells #[.int .i64 ve] 3)).alloc (.cells #[.int .i64 en,.bool fr,.slice (some ⟨B,0,none⟩) 1 1,.slice none 0 0] 45)=w2:=⟨_,rfl⟩;have hb2:Below B wr w2:=(by rw[←hw2];exact(bR.alloc (by omega) _).alloc (by simp;omega) _);have hr2:IRow w2 B 3 [ve]:=(by rw[←hw2];exact(Below.heap_alloc _ _ _ (by simp;omega)).trans (by rw[←hB];exact heap_alloc_new wr _));have hs2:ABox w2 (B+1) 45 [.int .i64 en,.bool fr,.slice (some ⟨B,0,none⟩) 1 1,.slice none 0 0]:=(by rw[←hw2];exact Qai (by simp;omega));have hz2:w2.heap.size=B+2:=(by rw[←hw2];simp;omega);rw[hB,hw2];have HBw:=Lh hB;have HB2:=Lh hb2;have HR2:=Lh hr2;have HS2:=Lh hs2;have HZ2:=Lh hz2;have HOB2:=Lh (HOB.out.to (hB▸hb2));have hT:=rtext_any A c l (12+6*k) (by omega) w2 (HL.out.to HOB2.out.bl);rw[show((12+6*k:Nat):Int)=12+6*(k:Int) by omega] at hT;have HT:=Lh hT;clear hT hw2 hb2 hr2 hs2 hz2 hB
   go_upto_region 9 with(first|(go_at_call 31;refine HT.out.mono ?_;rintro e w3 ⟨A5,c5,B5,d5,ls,ns,rfl,hg,hN,hb⟩;have HIB:=Lh (IB.start HBw.out.symm HB2.out HZ2.out HR2.out HI.out.2 HS2.out hb hN hg);have HB3:=Lh hb;have hx:=((HS2.out.to hb).to ((Below.refl _ w3).alloc nL (.cells #[.slice A5 ls.length c5,.slice B5 ns.length d5] 50)));have x3:=hx.cell 3 rfl;have f3:=hx.fz 3;clear hg hN hb hx)|fail)
   have HIB0:Hid (∃vv vt ts,IB B (B+1) wr en fr vv vt (Qb2 k 0) ts ((w3.alloc (.cells #[.slice A5 ls.length c5,.slice B5 ns.length d5] 50)).setCell ⟨B+1,3,none⟩ (.slice (some ⟨w3.heap.size,0,none⟩) 1 1))∧ts.length=0+1):=Lh ⟨_,_,_,by
    have h:=HIB.out
    rw[show[ve]=Qb2 k 0 by rw[←HVE.out];rfl] at h
    exact h,rfl⟩
   clear HIB x3 f3 HR2 HS2 HB2 HZ2 HT HB3;generalize (w3.alloc (.cells #[.slice A5 ls.length c5,.slice B5 ns.length d5] 50)).setCell ⟨B+1,3,none⟩ (.slice (some ⟨w3.heap.size,0,none⟩) 1 1)=w4 at*;go_wp2_with fail;obtain⟨wo,rfl⟩:∃wo:World,wo=wr:=⟨_,rfl⟩;go_loopw [8] (fun j wx=>∃q:Nat,q≤2∧j=.int .i64 q∧(fr=false→q=0)∧∃vv vt ts,IB B (B+1) wo en fr vv vt (Qb2 k q) ts wx∧ts.length=q+1) (fun j _=>3-(intOf j).toNat);(case atStart=>exact⟨0,by omega,rfl,fun _=>rfl,HIB0.out⟩);case round=>
    obtain⟨q,hq,rfl,hfq,vv,vt,ts,hib,htn⟩:=hrel;have HIB:=Lh hib;have HFQ:=Lh hfq;have HTN:=Lh htn;have hq2:(q:Int)≤2:=(by omega);have hq0:(0:Int)≤q:=(by omega);have i1:=hib.s.cell 1 rfl;have hBB:B≤wr.heap.size:=(by have:=hib.s.lt;omega);have HOBx:Hid (OB w m h f k v ss wr):=Lh (HOB.out.to (HBw.out▸hib.bl));clear hib hfq htn;go_wp2_with fail;refine(Qbp A c l (8+(k:Int)) 3 wr (HL.out.to HOBx.out.bl) (by decide) (by decide) (by omega)).mono ?_;rintro e _ ⟨r,rfl,hr,rfl⟩;by_cases hqr:q<r∧fr=true
    ·obtain⟨hqr,hft⟩:=hqr;have hqr2:(q:Int)<r:=(by omega);have HFT:=Lh hft;subst hft;have hq1:(q:Int)≤1:=(by omega);have hq1n:q≤1:=(by omega);clear hr;go_upto_region 12 with(fail);obtain⟨A6,c6,hv6,-,-⟩:=HIB.out.v.form;obtain⟨A7,c7,hv7,-,-⟩:=HIB.out.t.len;subst hv6 hv7;rw[QbP,HTN.out] at HIB;have i2:=HIB.out.s.cell 2 rfl;obtain⟨vn,hvn⟩:∃vn:Int,30+7*(k:Int)-3*(q:Int)=vn:=⟨_,rfl⟩;have HVN:=Lh hvn;have HIN:Hid (I64 vn):=Lh ⟨by omega,by omega⟩;have hln:(Qb2 k q).length=q+1:=QbP k q;obtain⟨vs,hvs⟩:∃vs,Qb2 k q=vs:=⟨_,rfl⟩;have HVS:=Lh hvs;rw[hvs] at HIB hln;have hba:Below wr.heap.size wr (wr.alloc (.cells #[.int .i64 vn] 3)):=bR.alloc nL _;have HBA:=Lh hba;have hown6:Own wr B 3 (.slice A6 vs.length c6) vs:=(by rw[hln];exact HIB.out.v);rw[←hln] at i2;have HIB6:Hid ((Value.slice A6 vs.length c6).ownBlock=(Value.slice A6 (q+1) c6).ownBlock):=Lh (by rw[hln]);have HLN:=Lh hln;have hvl:vs.length≤10:=(by omega);clear hvs hba hln i1
     go_upto_region 13 with(first|(at_builtin;refine Qan (α:=Int) _ rfl (.tmp 62) (.tmp 69) 22 rfl B 3 (.int .i64 0) 8 Tryz.underlying22 QaB rfl (by decide) _ vs rfl (hown6.alloc _) wr.heap.size _ vn (0,0) 3 rfl (heap_alloc_new wr _) ⟨rfl,HIN.out⟩ (by omega) (by omega) (by first|omega|(simp;done)|(simp;omega)) _ rfl ?_;intro g cap w5 hown5 hg5 hat5 hlt5;have hs5:=HIB.out.secV HBA.out (HIB6.out▸hg5);have x2:=hs5.cell 2 rfl;have f2:=hs5.fz 2;have HIB5:=Lh (HIB.out.pushV (v':=.slice (some ⟨g,0,none⟩) (vs.length+1) cap) hBB HBA.out hown5 (HIB6.out▸hg5) (HIB6.out▸hat5) rfl);clear hs5 hown5 hg5 hat5 hlt5)|fail)
     obtain⟨W8,hW8⟩:∃W8,(w5.setCell ⟨B+1,2,none⟩ (.slice (some ⟨g,0,none⟩) (vs.length+1) cap)).drew=W8:=⟨_,rfl⟩
     have HIB8:Hid (IB B (B+1) wo en true (.slice (some ⟨g,0,none⟩) (vs.length+1) cap) (.slice A7 (q+1) c7) (vs++[vn]) ts W8):=Lh (by
      rw[←hW8]
      exact HIB5.out.to (by have:=HIB5.out.s.lt;omega) bR.drew)
     clear HIB5 x2 f2;refine Qao (fun w'=>w'.cell? ⟨B+1,3,none⟩=some (.slice A7 (q+1) c7)) (fun i=>decide (i<13)) (by kernel_rfl) ?_;rw[hW8];clear hW8;have hS0:W8.cell? ⟨B+1,3,none⟩=some (.slice A7 (q+1) c7):=HIB8.out.s.cell 3 rfl;have HB8:Hid (B+1<W8.heap.size):=Lh HIB8.out.s.lt;have hT2:=rtext_any A c l (15+6*k+7*q) (by omega) W8 (HL.out.to ((HOB.out.to (HBw.out▸HIB8.out.bl)).bl));rw[show((15+6*k+7*q:Nat):Int)=15+6*(k:Int)+7*(q:Int) by omega] at hT2;have HT2:=Lh hT2;have hwa:IntKind.i64.wrap (6*(k:Int))=6*(k:Int):=(by rw[IntWalk.i64_in _ (by omega)]);have hwb:IntKind.i64.wrap (15+6*(k:Int))=15+6*(k:Int):=(by rw[IntWalk.i64_in _ (by omega)]);have hwc:IntKind.i64.wrap (7*(q:Int))=7*(q:Int):=(by rw[IntWalk.i64_in _ (by omega)]);have hwd:IntKind.i64.wrap (15+6*(k:Int)+7*(q:Int))=15+6*(k:Int)+7*(q:Int):=(by rw[IntWalk.i64_in _ (by omega)]);clear hT2;refine tE 0 ⟨some 72,Op.fieldAddr 45 (.tmp 7) 3,0,_,_,_⟩ ?_ rfl ?zq0 (hS0) ?zq1;(case zq0=>intro _ s;clear s;go_simp;(try with_reducible rfl));(all_goals try go_frame);refine tE 1 ⟨some 73,Op.load 43 (.tmp 72),43,_,_,_⟩ ?_ rfl ?zq2 (hS0) ?zq3;(case zq2=>intro wS hSw;(have hq9:=hSw);clear hSw;go_simp;(try with_reducible rfl));(all_goals try go_frame);refine tE 2 ⟨some 74,Op.move (.tmp 0),22,_,_,_⟩ ?_ rfl ?zq4 (hS0) ?zq5;(case zq4=>intro _ s;clear s;go_simp;(try with_reducible rfl));(all_goals try go_frame);refine tE 3 ⟨some 75,Op.move (.tmp 6),3,_,_,_⟩ ?_ rfl ?zq6 (hS0) ?zq7;(case zq6=>intro _ s;clear s;go_simp;(try with_reducible rfl));(all_goals try go_frame);refine tE 4 ⟨some 76,Op.binOp BinOp.mul 3 (Operand.const (Value.int IntKind.i64 6)) (.tmp 75) 3,3,_,_,_⟩ ?_ rfl ?zq8 (hS0) ?zq9;(case zq8=>intro _ s;clear s;go_simp;(try with_reducible rfl));(all_goals try go_frame);refine tE 5 ⟨some 77,Op.binOp BinOp.add 3 (Operand.const (Value.int IntKind.i64 15)) (.tmp 76) 3,3,_,_,_⟩ ?_ rfl ?zq10 (hS0) ?zq11;(case zq10=>intro _ s;clear s;go_simp;(try with_reducible rfl));(all_goals try go_frame);refine tE 6 ⟨some 78,Op.move (.tmp 8),3,_,_,_⟩ ?_ rfl ?zq12 (hS0) ?zq13;(case zq12=>intro _ s;clear s;go_simp;(try with_reducible rfl));(all_goals try go_frame);refine tE 7 ⟨some 79,Op.binOp BinOp.mul 3 (Operand.const (Value.int IntKind.i64 7)) (.tmp 78) 3,3,_,_,_⟩ ?_ rfl ?zq14 (hS0) ?zq15;(case zq14=>intro _ s;clear s;go_simp;(try with_reducible rfl));(all_goals try go_frame);refine tE 8 ⟨some 80,Op.binOp BinOp.add 3 (.tmp 77) (.tmp 79) 3,3,_,_,_⟩ ?_ rfl ?zq16 (hS0) ?zq17;(case zq16=>intro _ s;clear s;go_simp;(try with_reducible rfl));(all_goals try go_frame);refine tD 9 ⟨some 81,Op.call {callee:=Callee.value (Operand.func 31),args:=#[Operand.tmp 74,Operand.tmp 80],argTypes:=#[22,3]},50,_,_,_⟩ rfl fun K hK=>?_
     go_simp;go_at_call 31;refine HT2.out.mono ?_;rintro e w6 ⟨A8,c8,B8,d8,ls2,ns2,rfl,hg2,hN2,hb6⟩;go_simp;have hS6:w6.cell? ⟨B+1,3,none⟩=some (.slice A7 (q+1) c7):=((HIB8.out.s.to hb6).cell 3 rfl);have HB6:=Lh hb6;have HG2:=Lh hg2;have HN2:=Lh hN2;clear hb6 hg2 hN2;refine hK _ _ (fun _=>?_) ?_
     ·exact hS6
     clear hK K;(try go_frame);refine tD 10 ⟨some 82,Op.buildSlice 43 1 #[(0,.tmp 81)],43,_,_,_⟩ rfl fun K hK=>?_
     go_simp;have hb7:Below w6.heap.size w6 (w6.alloc (.cells #[.slice A8 ls2.length c8,.slice B8 ns2.length d8] 50)):=bR.alloc nL _;have HB7:=Lh (HB6.out.trans (hb7.mono HB6.out.size));have hl7:=heap_alloc_new w6 (.cells #[.slice A8 ls2.length c8,.slice B8 ns2.length d8] 50);have HN7:=Lh (Rep.keep (Rep.mono (S':=fun b=>W8.heap.size≤b) HN2.out (fun _ h _=>h)) (Kept.all hb7));have hS7:(w6.alloc (.cells #[.slice A8 ls2.length c8,.slice B8 ns2.length d8] 50)).cell? ⟨B+1,3,none⟩=some (.slice A7 (q+1) c7):=((HIB8.out.s.to HB7.out).cell 3 rfl);have HL7:=Lh hl7;obtain⟨b7,hbe7⟩:∃b7,w6.heap.size=b7:=⟨_,rfl⟩;rw[hbe7] at HL7 ⊢;clear hb7 hl7 hS6 HN2 HB6 hbe7;generalize w6.alloc (.cells #[.slice A8 ls2.length c8,.slice B8 ns2.length d8] 50)=w7 at*;refine hK _ _ (fun _=>?_) ?_
     ·exact hS7
     clear hK K;(try go_frame);refine tD 11 ⟨some 83,Op.call {callee:=Callee.builtin Builtin.append,args:=#[Operand.tmp 73,Operand.tmp 82],argTypes:=#[43,43]},43,_,_,_⟩ rfl fun K hK=>?_
     have hvt:(Value.slice A7 (q+1) c7).ownBlock=(Value.slice A7 ts.length c7).ownBlock:=by rw[HTN.out]
     have hown7:OwnP w7 B 50 (.slice A7 ts.length c7) ts (fun b=>B≤b∧b≠B+1∧some b≠(Value.slice (some ⟨g,0,none⟩) (vs.length+1) cap).ownBlock):=(by rw[HTN.out];exact HIB8.out.t.below HB7.out);rw[←HTN.out];have htl:ts.length≤10:=by rw[HTN.out];omega
     refine wp_push w7 (α:=Av TextP (fun b=>B≤b∧b≠B+1∧some b≠(Value.slice (some ⟨g,0,none⟩) (vs.length+1) cap).ownBlock)) (.tmp 73) (.tmp 82) 43 rfl B 50 (.agg #[.slice none 0 0,.slice none 0 0]) 48 Tryz.underlying43 Qb9 rfl (show 0<2 by decide) (.slice A7 ts.length c7) (ts.map Av.mk) rfl hown7.own b7 _ ⟨⟨ls2,ns2⟩⟩ (0,0) _ rfl HL7.out (show Rep.R w7 (fun b=>some b≠(Value.slice A7 ts.length c7).ownBlock∧(B≤b∧b≠B+1∧some b≠(Value.slice (some ⟨g,0,none⟩) (vs.length+1) cap).ownBlock)) [.slice A8 ls2.length c8,.slice B8 ns2.length d8] (⟨ls2,ns2⟩:TextP) from Rep.mono HN7.out (fun i (hi:W8.heap.size≤i) _=>⟨fun e=>by have:=(HIB8.out.t.lt i (by rw[hvt];exact e.symm)).2;omega,by have:=HB8.out;omega,by have:=HB8.out;omega,fun e=>by have:=(HIB8.out.v.lt i e.symm).2;omega⟩)) (by rw[qM];omega) (by rw[qM];omega) (by have:=HB7.out.size;have:=HB8.out;omega) _ rfl ?_;rw[qM];intro g9 cap9 w9 ho9 hg9 hat9 hlt9;have hs9:=HIB8.out.secT HB7.out (hvt▸hg9);have x3:=hs9.cell 3 rfl;have f3:=hs9.fz 3;have hS9:w9.cell? ⟨B+1,3,none⟩=some (.slice A7 (q+1) c7):=x3;have HIB9:=Lh (HIB8.out.pushT (v':=.slice (some ⟨g9,0,none⟩) (ts.length+1) cap9) (ts':=ts++[⟨ls2,ns2⟩]) (by have:=HB8.out;omega) HB7.out (by rw[List.map_append];exact ho9) (hvt▸hg9) (hvt▸hat9) rfl (fun t ht=>(List.mem_append.1 ht).elim (HIB8.out.g t) (fun h=>by rw[List.mem_singleton] at h;subst h;exact HG2.out)));clear hs9 ho9 hg9 hat9 hlt9 hS7 hown7;refine hK _ _ (fun _=>?_) ?_
     ·exact hS9
     clear hK K;(try go_frame);refine tE 12 ⟨some 84,Op.fieldAddr 45 (.tmp 7) 3,0,_,_,_⟩ ?_ rfl ?zq18 (hS9) ?zq19;(case zq18=>intro _ s;clear s;go_simp;(try with_reducible rfl));(all_goals try go_frame);refine tD 13 ⟨none,Op.store 43 (.tmp 84) (.tmp 83),0,_,_,_⟩ rfl fun K hK=>?_
     clear hS9;go_simp;refine hK _ _ (fun h=>absurd h (by decide)) ?_;clear hK K;(try simp only[Act.put]);refine Qaf (by kernel_rfl) ?_ _;unfold Exit.then;clear x3 f3;go_wp2_with fail;go_roundw
     case rel=>exact⟨q+1,by omega,by go_num,fun h=>absurd h (by decide),_,_,_,by
      have h:=HIB9.out
      rw[←HVS.out,←HVN.out,versG_succ] at h
      exact h,by rw[qA,HTN.out];rfl⟩
     case measure=>(first|(simp[intOf];done)|(simp[intOf];omega))
    ·have HNQ:=Lh hqr;by_cases hqr1:q<r
     ·have hft:fr=false:=by
       cases hf:fr with
       |false=>rfl
       |true=>exact absurd ⟨hqr1,hf⟩ HNQ.out
      have hqr2:(q:Int)<r:=(by omega);clear hqr;subst hft;obtain⟨A6,c6,hv6,-,-⟩:=HIB.out.v.form;obtain⟨A7,c7,hv7,-,-⟩:=HIB.out.t.len;subst hv6 hv7;obtain⟨A9,c9,hv9,-,-⟩:=HOBx.out.o.len;subst hv9;have hln:(Qb2 k q).length=q+1:=QbP k q;have HGS:Hid (GSect f k ⟨en,false,Qb2 k q,ts⟩):=Lh ⟨HEN.out,HFR.out.symm,q,hq,HFQ.out,rfl,HTN.out,HIB.out.g⟩;obtain⟨vs,hvs⟩:∃vs,Qb2 k q=vs:=⟨_,rfl⟩;rw[hvs] at HIB hln HGS;have hvl:vs.length≤10:=(by omega);have htl:ts.length≤10:=(by have:=HTN.out;omega);have hsl:ss.length≤10:=(by have:=HOBx.out.n;omega);have i0:=HIB.out.s.cell 0 rfl;have i2:=HIB.out.s.cell 2 rfl;have i3:=HIB.out.s.cell 3 rfl;have b2:=HOBx.out.b.cell 2 rfl;have hba:Below wr.heap.size wr (wr.alloc (.cells #[.int .i64 en,.bool false,.slice A6 vs.length c6,.slice A7 ts.length c7] 45)):=bR.alloc nL _;have HBA:=Lh hba;have HRE:=Lh (HIB.out.rep (v:=.slice A9 ss.length c9) (Y:=w.heap.size+1) HI.out.1 hba (by have:=HOB.out.lt;have:=HBw.out;omega) (fun g hg=>by have:=(HOB.out.o.lt g hg).2;have:=HBw.out;omega) hvl htl);clear hvs hln hba HIB HFQ HTN hq2 hq0
      go_upto_region 6 with(first|(at_builtin;refine Qan (α:=Av SectP (fun i=>w.heap.size+1<i)) _ rfl (.tmp 86) (.tmp 88) 25 rfl w.heap.size 45 (.agg #[.int .i64 0,.bool false,.slice none 0 0,.slice none 0 0]) 64 Tryz.underlying25 QaL rfl (show 0<4 by decide) _ (ss.map Av.mk) rfl (HOBx.out.o.own.alloc _) wr.heap.size _ ⟨⟨en,false,vs,ts⟩⟩ (0,0) 45 rfl (heap_alloc_new wr _) HRE.out (by rw[qM];omega) (by rw[qM];omega) (by have:=HOBx.out.bl.size;simp;omega) _ rfl ?_;rw[qM];intro g cap w5 hown5 hg5 hat5 hlt5;have hs5:=HOBx.out.book HBA.out hg5;have x2:=hs5.cell 2 rfl;have f2:=hs5.fz 2;have HOB5:=Lh (HOBx.out.push (v':=.slice (some ⟨g,0,none⟩) (ss.length+1) cap) HBA.out HGS.out (by rw[List.map_append];exact hown5) hg5 hat5 rfl);clear hs5 hown5 hg5 hat5 hlt5)|fail)
      clear x2 f2 i0 i1 i2 i3 b2;go_wp2_with fail;go_roundw;(case rel=>exact⟨k+1,by omega,by go_num,_,_,HOB5.out⟩);case measure=>(first|(simp[intOf];done)|(simp[intOf];omega))
     ·have hqr2:¬(q:Int)<r:=by omega
      clear hqr;obtain⟨A6,c6,hv6,-,-⟩:=HIB.out.v.form;obtain⟨A7,c7,hv7,-,-⟩:=HIB.out.t.len;subst hv6 hv7;obtain⟨A9,c9,hv9,-,-⟩:=HOBx.out.o.len;subst hv9;have hln:(Qb2 k q).length=q+1:=QbP k q;have HGS:Hid (GSect f k ⟨en,fr,Qb2 k q,ts⟩):=Lh ⟨HEN.out,HFR.out.symm,q,hq,HFQ.out,rfl,HTN.out,HIB.out.g⟩;obtain⟨vs,hvs⟩:∃vs,Qb2 k q=vs:=⟨_,rfl⟩;rw[hvs] at HIB hln HGS;have hvl:vs.length≤10:=(by omega);have htl:ts.length≤10:=(by have:=HTN.out;omega);have hsl:ss.length≤10:=(by have:=HOBx.out.n;omega);have i0:=HIB.out.s.cell 0 rfl;have i2:=HIB.out.s.cell 2 rfl;have i3:=HIB.out.s.cell 3 rfl;have b2:=HOBx.out.b.cell 2 rfl;have hba:Below wr.heap.size wr (wr.alloc (.cells #[.int .i64 en,.bool fr,.slice A6 vs.length c6,.slice A7 ts.length c7] 45)):=bR.alloc nL _;have HBA:=Lh hba;have HRE:=Lh (HIB.out.rep (v:=.slice A9 ss.length c9) (Y:=w.heap.size+1) HI.out.1 hba (by have:=HOB.out.lt;have:=HBw.out;omega) (fun g hg=>by have:=(HOB.out.o.lt g hg).2;have:=HBw.out;omega) hvl htl);clear hvs hln hba HIB HFQ HTN hq2 hq0
      go_upto_region 6 with(first|(at_builtin;refine Qan (α:=Av SectP (fun i=>w.heap.size+1<i)) _ rfl (.tmp 86) (.tmp 88) 25 rfl w.heap.size 45 (.agg #[.int .i64 0,.bool false,.slice none 0 0,.slice none 0 0]) 64 Tryz.underlying25 QaL rfl (show 0<4 by decide) _ (ss.map Av.mk) rfl (HOBx.out.o.own.alloc _) wr.heap.size _ ⟨⟨en,fr,vs,ts⟩⟩ (0,0) 45 rfl (heap_alloc_new wr _) HRE.out (by rw[qM];omega) (by rw[qM];omega) (by have:=HOBx.out.bl.size;simp;omega) _ rfl ?_;rw[qM];intro g cap w5 hown5 hg5 hat5 hlt5;have hs5:=HOBx.out.book HBA.out hg5;have x2:=hs5.cell 2 rfl;have f2:=hs5.fz 2;have HOB5:=Lh (HOBx.out.push (v':=.slice (some ⟨g,0,none⟩) (ss.length+1) cap) HBA.out HGS.out (by rw[List.map_append];exact hown5) hg5 hat5 rfl);clear hs5 hown5 hg5 hat5 hlt5)|fail)
      clear x2 f2 i0 i1 i2 i3 b2;go_wp2_with fail;go_roundw;(case rel=>exact⟨k+1,by omega,by go_num,_,_,HOB5.out⟩);case measure=>(first|(simp[intOf];done)|(simp[intOf];omega))
  ·obtain rfl:k=n:=by omega
   obtain⟨A9,c9,hv9,-,-⟩:=HOB.out.o.len;subst hv9;have b0:=HOB.out.b.cell 0 rfl;have b1:=HOB.out.b.cell 1 rfl;have b2:=HOB.out.b.cell 2 rfl;have r0:=HOB.out.r.cell 0 rfl;have r1:=HOB.out.r.cell 1 rfl;have r2:=HOB.out.r.cell 2 rfl;have f0:=HOB.out.r.fz 0;have f1:=HOB.out.r.fz 1;have f2:=HOB.out.r.fz 2;have hsl:ss.length≤10:=(by have:=HOB.out.n;omega);go_wp2_with fail
   refine bodyPost_ret (v:=.agg #[.int .i64 m,.int .i64 h,.slice A9 ss.length c9]) (QaW Tryz.results9 _ _ w.heap.size _ [.int .i64 m,.int .i64 h,.slice A9 ss.length c9] _ rfl (Qax HOB.out.r _ _ _) Tryz.underlying27 rfl (by kernel_rfl)) rfl ⟨m,h,A9,c9,ss,rfl,⟨HM.out.1.1,HM.out.1.2,HM.out.2.1,HM.out.2.2,by have:=HOB.out.n;omega,f,HOB.out.g⟩,?_,below3 HOB.out.bl nL _ _ _⟩
   obtain⟨A10,c10,e10,hsl10⟩:=HOB.out.o.sl;cases e10;refine(hsl10.keep (w':=_) ?_ (by simp)).mono (fun i (hi:w.heap.size+1<i) hl=>⟨by omega,hl⟩);intro i (hi:w.heap.size+1<i) _;exact(Qaa _ _ _ _ (by omega)).trans ((Qaa _ _ _ _ (by omega)).trans (Qaa _ _ _ _ (by omega)))
theorem same1_any (A B:Option Addr)(c d n:Nat)(l:List Int)(w:World)(ha:Sl w (fun b=>b<w.heap.size) A c l)(hb:Sl w (fun b=>b<w.heap.size) B d l)(hn:l.length=n)(hs:n≤1073741824):
 Calls Tryz.prog 57 #[.slice A n c,.slice B n d] w fun e w'=>e=.returned (.bool true)∧Below w.heap.size w w':=by
 have HA:=Lh ha;have HB:=Lh hb;have HN:=Lh hn;have hc:n≤c:=by rw[←hn];exact ha.1
 have hd:n≤d:=by rw[←hn];exact hb.1
 clear ha hb hn;go_enter Tryz.func57,Tryz.ntmps57;go_wp2_with fail;go_loopw [5] (fun i wr=>∃k:Nat,k≤n∧i=.int .i64 k∧Below w.heap.size w wr) (fun i _=>n-(intOf i).toNat);(case atStart=>exact⟨0,by omega,rfl,Below.refl _ _⟩);case round=>
  obtain⟨k,hk,rfl,hbl⟩:=hrel;have HBL:=Lh hbl;by_cases hlt:k<n
  ·have hkl:k<l.length:=by rw[HN.out];exact hlt
   obtain⟨b,o,rfl,-,-,-,e1⟩:=Qa8 (HA.out.to hbl) hkl;obtain⟨b',o',rfl,-,-,-,e2⟩:=Qa8 (HB.out.to hbl) hkl;obtain⟨y,hy⟩:∃y,l[k]=y:=⟨_,rfl⟩;rw[hy] at e1 e2;have hkI:(k:Int)<(n:Int):=(by omega);clear hy hbl hkl;go_wp2_with (first|go_quiet (fail)|fail);go_roundw;(case rel=>exact⟨k+1,by omega,by go_num,Below.dn HBL.out _⟩);case measure=>simp[intOf];omega
  ·obtain rfl:k=n:=by omega
   clear hbl;go_wp2_with fail;go_ret;exact⟨rfl,HBL.out⟩
theorem same3_any (A B:Option Addr)(c d n:Nat)(l:List Int)(w:World)(ha:Sl w (fun b=>b<w.heap.size) A c l)(hb:Sl w (fun b=>b<w.heap.size) B d l)(hn:l.length=n)(hs:n≤1073741824):
 Calls Tryz.prog 67 #[.slice A n c,.slice B n d] w fun e w'=>e=.returned (.bool true)∧Below w.heap.size w w':=by
 have HA:=Lh ha;have HB:=Lh hb;have HN:=Lh hn;have hc:n≤c:=by rw[←hn];exact ha.1
 have hd:n≤d:=by rw[←hn];exact hb.1
 clear ha hb hn;go_enter Tryz.func67,Tryz.ntmps67;go_wp2_with fail;go_loopw [5] (fun i wr=>∃k:Nat,k≤n∧i=.int .i64 k∧Below w.heap.size w wr) (fun i _=>n-(intOf i).toNat);(case atStart=>exact⟨0,by omega,rfl,Below.refl _ _⟩);case round=>
  obtain⟨k,hk,rfl,hbl⟩:=hrel;have HBL:=Lh hbl;by_cases hlt:k<n
  ·have hkl:k<l.length:=by rw[HN.out];exact hlt
   obtain⟨b,o,rfl,-,-,-,e1⟩:=Qa8 (HA.out.to hbl) hkl;obtain⟨b',o',rfl,-,-,-,e2⟩:=Qa8 (HB.out.to hbl) hkl;obtain⟨y,hy⟩:∃y,l[k]=y:=⟨_,rfl⟩;rw[hy] at e1 e2;have hkI:(k:Int)<(n:Int):=(by omega);clear hy hbl hkl;go_wp2_with (first|go_quiet (fail)|fail);go_roundw;(case rel=>exact⟨k+1,by omega,by go_num,Below.dn HBL.out _⟩);case measure=>simp[intOf];omega
  ·obtain rfl:k=n:=by omega
   clear hbl;go_wp2_with fail;go_ret;exact⟨rfl,HBL.out⟩
theorem rows_at {w:World}{S:Nat→Prop}{A:Option Addr}{c:Nat}{l:List (List Word)}(h:Sl w S A c l){k:Nat}(hk:k<l.length):
 ∃b o A1 c1,A=some ⟨b,o,none⟩∧S b∧b<w.heap.size∧w.cell? ⟨b,o+k,none⟩=some (.slice A1 l[k].length c1)∧Sl w S A1 c1 l[k]:=by
 obtain⟨b,o,es,rfl,hb,hlt,⟨A1,c1,rfl,hs,-⟩,hc⟩:=h.at_ hk;have h0:=hc 0 _ rfl;simp only[Rep.size,Nat.mul_one,Nat.add_zero] at h0;exact⟨b,o,A1,c1,rfl,hb,hlt,h0,hs⟩
theorem sameParts_any (A B:Option Addr)(c d n:Nat)(l:List (List Word))(w:World)(ha:Sl w (fun b=>b<w.heap.size) A c l)(hb:Sl w (fun b=>b<w.heap.size) B d l)(hn:l.length=n)(hs:Qam l):
 Calls Tryz.prog 47 #[.slice A n c,.slice B n d] w fun e w'=>e=.returned (.bool true)∧Below w.heap.size w w':=by
 have HA:=Lh ha;have HB:=Lh hb;have HN:=Lh hn;have HS:=Lh hs;have hc:n≤c:=by rw[←hn];exact ha.1
 have hd:n≤d:=by rw[←hn];exact hb.1
 have hn2:n≤1048576:=by rw[←hn];exact hs.1
 clear ha hb hn hs;go_enter Tryz.func47,Tryz.ntmps47;go_wp2_with fail;go_loopw [5] (fun i wr=>∃k:Nat,k≤n∧i=.int .i64 k∧Below w.heap.size w wr) (fun i _=>n-(intOf i).toNat);(case atStart=>exact⟨0,by omega,rfl,Below.refl _ _⟩);case round=>
  obtain⟨k,hk,rfl,hbl⟩:=hrel;have HBL:=Lh hbl;by_cases hlt:k<n
  ·have hkl:k<l.length:=by rw[HN.out];exact hlt
   obtain⟨b,o,A1,c1,rfl,hbs,-,e1,hs1⟩:=rows_at HA.out hkl;obtain⟨b',o',B1,d1,rfl,hbs',-,e2,hs2⟩:=rows_at HB.out hkl;have HE1:Hid (∀w',Below w.heap.size w w'→w'.cell? ⟨b,o+k,none⟩=some (.slice A1 l[k].length c1)):=Lh (fun w' h=>(h.cell (p:=⟨b,o+k,none⟩) hbs).trans e1);have HE2:Hid (∀w',Below w.heap.size w w'→w'.cell? ⟨b',o'+k,none⟩=some (.slice B1 l[k].length d1)):=Lh (fun w' h=>(h.cell (p:=⟨b',o'+k,none⟩) hbs').trans e2);have hpl:(l[k]).length≤1048576:=HS.out.2 _ (List.getElem_mem hkl);obtain⟨p,hp⟩:∃p,l[k]=p:=⟨_,rfl⟩;rw[hp] at HE1 HE2 hs1 hs2 hpl;have HS1:=Lh hs1;have HS2:=Lh hs2;obtain⟨q,hq⟩:∃q,p.length=q:=⟨_,rfl⟩;have HQ:=Lh hq;have hqc:q≤c1:=(by rw[←hq];exact hs1.1);have hqd:q≤d1:=(by rw[←hq];exact hs2.1);rw[hq] at HE1 HE2 hpl;have hkI:(k:Int)<(n:Int):=(by omega);clear hp hs1 hs2 e1 e2 hbl hbs hbs' hkl hq;have e1:=HE1.out _ HBL.out;have e2:=HE2.out _ HBL.out;go_upto_region 8 with(first|go_quiet (fail)|fail);clear e1 e2;have HB2:=Lh (Below.dn HBL.out nq);obtain⟨wo,hwo⟩:∃wo,wr.drewN nq=wo:=⟨_,rfl⟩;rw[hwo] at HB2 ⊢;clear hwo HBL;go_wp2_with fail;go_loopw [6] (fun i wx=>∃j:Nat,j≤q∧i=.int .i64 j∧Below w.heap.size w wx) (fun i _=>q-(intOf i).toNat);(case atStart=>exact⟨0,by omega,rfl,HB2.out⟩);case round=>
    obtain⟨j,hj,rfl,hbl⟩:=hrel;have HBL:=Lh hbl;have e1:=HE1.out _ hbl;have e2:=HE2.out _ hbl;by_cases hjq:j<q
    ·have hjl:j<p.length:=by rw[HQ.out];exact hjq
     obtain⟨bb,oo,rfl,-,-,-,f0,f1,f2,f3⟩:=QbU ((HS1.out.keep (Kept.below hbl fun _ h=>h) hbl.size)) hjl;obtain⟨bb',oo',rfl,-,-,-,g0,g1,g2,g3⟩:=QbU ((HS2.out.keep (Kept.below hbl fun _ h=>h) hbl.size)) hjl;obtain⟨y,hy⟩:∃y,p[j]=y:=⟨_,rfl⟩;rw[hy] at f0 f1 f2 f3 g0 g1 g2 g3;have hjI:(j:Int)<(q:Int):=(by omega);clear hy hbl hjl;go_wp2_with (first|go_quiet (fail)|fail);go_roundw;(case rel=>exact⟨j+1,by omega,by go_num,Below.dn HBL.out _⟩);case measure=>simp[intOf];omega
    ·obtain rfl:j=q:=by omega
     clear hbl;go_wp2_with (first|go_quiet (fail)|fail);go_roundw;(case rel=>exact⟨k+1,by omega,by go_num,HBL.out⟩);case measure=>simp[intOf];omega
  ·obtain rfl:k=n:=by omega
   clear hbl;go_wp2_with fail;go_ret;exact⟨rfl,HBL.out⟩
structure TM (w:World)(A:Option Addr)(c:Nat)(B:Option Addr)(d:Nat)(a b:List (List Word)):Prop where
 ta:Sl w (fun b=>b<w.heap.size) A c a
 tb:Sl w (fun b=>b<w.heap.size) B d b
 sa:Qam a
 sb:Qam b
set_option maxRecDepth 100000 in
theorem Qc0 (A B:Option Addr)(c d n:Nat)(l:List LineP)(w:World)(ha:Sl w (fun b=>b<w.heap.size) A c l)(hb:Sl w (fun b=>b<w.heap.size) B d l)(hn:l.length=n)(hs:n≤1048576)(hsm:QaF l):
 Calls Tryz.prog 35 #[.slice A n c,.slice B n d] w fun e w'=>e=.returned (.bool true)∧Below w.heap.size w w':=by
 have HA:=Lh ha;have HB:=Lh hb;have HN:=Lh hn;have HSL:=Lh hsm;have hc:n≤c:=by rw[←hn];exact ha.1
 have hd:n≤d:=by rw[←hn];exact hb.1
 clear ha hb hn hsm;go_enter Tryz.func35,Tryz.ntmps35;go_wp2_with fail;go_loopw [5] (fun i wr=>∃k:Nat,k≤n∧i=.int .i64 k∧Below w.heap.size w wr) (fun i _=>n-(intOf i).toNat);(case atStart=>exact⟨0,by omega,rfl,Below.refl _ _⟩);case round=>
  obtain⟨k,hk,rfl,hbl⟩:=hrel;have HBL:=Lh hbl;by_cases hlt:k<n
  ·have hkl:k<l.length:=by rw[HN.out];exact hlt
   obtain⟨b,o,Ag,cg,An,cn,rfl,-,hbl0,e0,e1,e2,e3,hg1,hn1⟩:=QbF (HA.out.to hbl) hkl;obtain⟨b2,o2,Ag2,cg2,An2,cn2,rfl,-,hbl2,f0,f1,f2,f3,hg2,hn2⟩:=QbF (HB.out.to hbl) hkl;have hsy:=HSL.out _ (List.getElem_mem hkl);obtain⟨y,hy⟩:∃y,l[k]=y:=⟨_,rfl⟩;rw[hy] at e0 e1 e2 e3 f0 f1 f2 f3 hg1 hg2 hn1 hn2 hsy;have HAg:=Lh hg1;have HAn:=Lh hn1;have HAg2:=Lh hg2;have HAn2:=Lh hn2;have HSM:=Lh hsy;have hkI:(k:Int)<(n:Int):=(by omega);clear hy hbl hkl hg1 hg2 hn1 hn2 hsy;go_upto_region 6 with(fail);refine Qaj [35,49] (fun i=>if i=35 then SP.val (.bool true) else if i=49 then SP.val (.bool true) else SP.any) 52 (by kernel_rfl) (by kernel_rfl) ?_;intro T _ g hg hgm;have qe0:∀d,(g d).cell? ⟨b,o+k*4,none⟩=some (.int .i64 y.fr):=fun d=>((hg d).cell (p:=⟨b,o+k*4,none⟩) hbl0).trans e0
   have re0:∀d,(g d).cell? ⟨b2,o2+k*4,none⟩=some (.int .i64 y.fr):=fun d=>((hg d).cell (p:=⟨b2,o2+k*4,none⟩) hbl2).trans f0
   have qe1:∀d,(g d).cell? ⟨b,o+k*4+1,none⟩=some (.int .i64 y.un):=fun d=>((hg d).cell (p:=⟨b,o+k*4+1,none⟩) hbl0).trans e1
   have re1:∀d,(g d).cell? ⟨b2,o2+k*4+1,none⟩=some (.int .i64 y.un):=fun d=>((hg d).cell (p:=⟨b2,o2+k*4+1,none⟩) hbl2).trans f1
   have qe2:∀d,(g d).cell? ⟨b,o+k*4+2,none⟩=some (.slice Ag y.gaps.length cg):=fun d=>((hg d).cell (p:=⟨b,o+k*4+2,none⟩) hbl0).trans e2
   have re2:∀d,(g d).cell? ⟨b2,o2+k*4+2,none⟩=some (.slice Ag2 y.gaps.length cg2):=fun d=>((hg d).cell (p:=⟨b2,o2+k*4+2,none⟩) hbl2).trans f2
   have qe3:∀d,(g d).cell? ⟨b,o+k*4+3,none⟩=some (.slice An y.notes.length cn):=fun d=>((hg d).cell (p:=⟨b,o+k*4+3,none⟩) hbl0).trans e3
   have re3:∀d,(g d).cell? ⟨b2,o2+k*4+3,none⟩=some (.slice An2 y.notes.length cn2):=fun d=>((hg d).cell (p:=⟨b2,o2+k*4+3,none⟩) hbl2).trans f3
   (repeat(refine Qah (by rfl) fun Kq hq=>?_;go_big_quiet_step (fail);refine wpQuiet_nil (hq _ ?_);clear hq Kq));refine Qap (by rfl) (by rfl) (fun d hG K Q hK=>?_) (fun v d hG hp Kr hr=>?_)
   ·go_simp;go_at_call 67;refine(same3_any Ag Ag2 cg cg2 y.gaps.length y.gaps (g d) ((HAg.out.to (hg d))) ((HAg2.out.to (hg d))) rfl (by have:=HSM.out;omega)).mono ?_;rintro e W1 ⟨rfl,hb1⟩;go_simp;exact hK _ _ hb1 (rfl)
   have hp:v=.bool true:=hp;subst hp;(try clear hp);clear hG;go_frame;refine hr _ ?_;clear hr Kr;(repeat(refine Qah (by rfl) fun Kq hq=>?_;go_big_quiet_step (fail);refine wpQuiet_nil (hq _ ?_);clear hq Kq));refine Qap (by rfl) (by rfl) (fun d hG K Q hK=>?_) (fun v d hG hp Kr hr=>?_)
   ·go_simp;go_at_call 67;refine(same3_any An An2 cn cn2 y.notes.length y.notes (g d) ((HAn.out.to (hg d))) ((HAn2.out.to (hg d))) rfl (by have:=HSM.out;omega)).mono ?_;rintro e W1 ⟨rfl,hb1⟩;go_simp;exact hK _ _ hb1 (rfl)
   have hp:v=.bool true:=hp;subst hp;(try clear hp);clear hG;go_frame;refine hr _ ?_;clear hr Kr;(repeat(refine Qah (by rfl) fun Kq hq=>?_;go_big_quiet_step (fail);refine wpQuiet_nil (hq _ ?_);clear hq Kq));refine Qcg (by kernel_rfl) (fun d hG=>?_) _;clear qe0 qe1 qe2 qe3 re0 re1 re2 re3;have HBd:=Lh (hg d);clear hG hg hgm;unfold Exit.then;have HBL2:=Lh (HBL.out.trans (HBd.out.mono HBL.out.size));generalize g d=wz at*;clear g;go_wp2_with fail;go_roundw;(case rel=>exact⟨k+1,by omega,by go_num,HBL2.out⟩);case measure=>simp[intOf];omega
  ·obtain rfl:k=n:=by omega
   clear hbl;go_wp2_with fail;go_ret;exact⟨rfl,HBL.out⟩

structure Tame (l:List SectP):Prop where
 n:l.length≤5
 v:∀s∈l,s.vers.length≤4∧s.texts.length≤s.vers.length∧∀t∈s.texts,GText t.a t.b
structure Siz (m h:Int):Prop where
 m1:500≤m
 m2:m≤2000
 h1:4≤h
 h2:h≤100
theorem GBk.siz {m h:Int}{l:List SectP}(H:GBk m h l):Siz m h:=⟨H.m1,by have:=H.m2;omega,H.h1,by have:=H.h2;omega⟩
theorem GBk.tame {m h:Int}{l:List SectP}(H:GBk m h l):Tame l:=by
 refine⟨by have:=H.n;omega,fun s hs=>?_⟩;obtain⟨f,hf⟩:=H.s;obtain⟨i,hi,rfl⟩:=List.getElem_of_mem hs;obtain⟨-,-,j,hj,-,hv,ht,hg⟩:=hf i hi;exact⟨by rw[hv,QbP];omega,by rw[hv,QbP,ht];omega,hg⟩
theorem versB_tame {m h entry:Int}(hz:Siz m h):∀(ts:List TextP) (k:Nat) (num suf:Int) (vs:List Int),(∀t∈ts,GText t.a t.b)→(QaJ m h entry k num suf vs ts).length≤196*ts.length
 |[],_,_,_,_,_=>by simp[QaJ]
 |t::ts,k,num,suf,vs,hg=>by
  rw[QaJ,qA,QcC,qC];have h1:=((hg t (by simp)).pages ⟨hz.m1,hz.m2⟩ ⟨hz.h1,hz.h2⟩).2;have h2:=versB_tame (entry:=entry) hz ts (k+1) (if k=0 then num+(Qak t.a t.b m h).length else num) (if k=0 then suf else suf+(Qak t.a t.b m h).length) vs.tail (fun x hx=>hg x (by simp[hx]));omega
theorem Qd4 {m h:Int}(hz:Siz m h):∀(l:List SectP) (num:Int),(∀s∈l,s.texts.length≤4∧∀t∈s.texts,GText t.a t.b)→(Qaq m h num l).length≤784*l.length
 |[],_,_=>by simp[Qaq]
 |s::l,num,hs=>by
  rw[Qaq,qA,qC];have h1:=versB_tame (entry:=s.entry) hz s.texts 0 num 0 s.vers (hs s (by simp)).2;have h2:=Qd4 hz l (num+QaA m h s) (fun x hx=>hs x (by simp[hx]));have h3:=(hs s (by simp)).1;omega
theorem Tame.pages {m h:Int}{l:List SectP}(H:Tame l)(hz:Siz m h):(Qac m h l).length≤3920:=by
 have h1:=Qd4 hz l 0 (fun s hs=>⟨by have:=(H.v s hs).1;have:=(H.v s hs).2.1;omega,(H.v s hs).2.2⟩);have h2:=H.n;unfold Qac;omega
end Go.Proofs.YtakaielemicpkaaGreatDoor
