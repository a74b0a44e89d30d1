/- Texts of VwCSm. -/
import Derived.Test.YtegaapiocihcpaaGreatDoorVZi7
import Derived.Deep.QuietTactic
import Derived.BigQuiet
import Derived.Deep.RegionHeld3
import Derived.Deep.DrawnRows
import Derived.Lib.ItoaNum
import Derived.BigRegion
import Derived.Lib.AppendIntMem
import Derived.Laws.EntriesVeiled
import Derived.Shelf.Spec.SlicesGrow
import Derived.Shelf.SlGeneric
import Derived.Test.YtegaapiocihcpaaGreatDoorProg
set_option maxHeartbeats 4000000
namespace Go.Proofs.YtegaapiocihcpaaGreatDoor
open Go.RowKit
structure GoodS (m h:Int)(s:SectP):Prop where
 e:0≤s.entry∧s.entry≤65535
 n:s.vers.length≠0
 nt:s.vers.length=s.texts.length
 nf:s.frozen=false→s.vers.length≤1
 lim:s.vers.length≤100
 r:∀v∈s.vers,0≤v∧v≤2147483647
 d:s.vers.Nodup
 w:∀t∈s.texts,Qa5 m h t.a t.b=0
structure GoodB (m h:Int)(l:List SectP):Prop where
 gm:500≤m∧m≤2000
 gh:4≤h∧h≤100
 s:∀s∈l,GoodS m h s
 d:(l.map (·.entry)).Nodup
 f:l.Pairwise fun a b=>b.frozen=true→a.frozen=true
 p:(Qae m h l).length≤16384
theorem versE_zero {m h:Int}{s:SectP}(hn:s.vers.length=s.texts.length)(H:versE m h s=0):(∀v∈s.vers,0≤v∧v≤2147483647)∧s.vers.Nodup∧∀t∈s.texts,Qa5 m h t.a t.b=0:=by
 have h1:∀q (hq:q<s.vers.length),(0≤s.vers[q]∧s.vers[q]≤2147483647)∧s.vers[q]∉s.vers.take q∧Qa5 m h (s.texts[q]'(by omega)).a (s.texts[q]'(by omega)).b=0:=fun q hq=>by
  have h2:=Qck H q hq;have ht:q<s.texts.length:=(by omega);rw[List.getD_eq_getElem?_getD,qG hq,List.getD_eq_getElem?_getD,qG ht] at h2;simp only[Option.getD_some] at h2;unfold verX at h2;split at h2
  ·exact absurd h2 (by decide)
  ·rename_i h3;split at h2
   ·exact absurd h2 (by decide)
   ·rename_i h4;exact⟨Decidable.not_not.1 h3,h4,h2⟩
 refine⟨fun v hv=>?_,?_,fun t ht=>?_⟩
 ·obtain⟨q,hq,rfl⟩:=List.getElem_of_mem hv;exact(h1 q hq).1
 ·rw[List.nodup_iff_pairwise_ne,List.pairwise_iff_getElem];intro i j hi hj hij e;refine(h1 j hj).2.1 (List.mem_iff_getElem.2 ⟨i,by rw[qK];omega,?_⟩);rw[List.getElem_take];exact e
 ·obtain⟨q,hq,rfl⟩:=List.getElem_of_mem ht;exact(h1 q (by omega)).2.2
theorem findP_le {l:List SectP}{e:Int}{i:Nat}(hi:i<l.length)(he:l[i].entry=e):Qa6 l e≤(i:Int):=by
 rcases QbM l e with h|⟨k,hk,h,-⟩
 ·rw[h];omega
 ·rw[h];by_cases hik:k≤i
  ·omega
  ·exfalso
   have h2:l.findIdx (fun s=>decide (s.entry=e))=k:=by
    unfold Qa6 at h;split at h<;>omega
   have h3:=List.not_of_lt_findIdx (p:=fun s:SectP=>decide (s.entry=e)) (xs:=l) (i:=i) (by omega);simp[he] at h3
theorem chkE_good {m h:Int}{l:List SectP}(H:chkE m h l=0):GoodB m h l:=by
 unfold chkE at H;split at H
 ·exact absurd H (by decide)
 rename_i h1;split at H
 ·exact absurd H (by decide)
 rename_i h2;split at H
 ·rename_i h3;exact absurd H h3
 rename_i h3;split at H
 ·exact absurd H (by decide)
 rename_i h4
 have h5:∀k (hk:k<l.length),OkS m h l k l[k]:=fun k hk=>by
  have:=Qck (Decidable.not_not.1 h3) k hk;rw[List.getD_eq_getElem?_getD,qG hk] at this;exact secX_ok this
 refine⟨Decidable.not_not.1 h1,Decidable.not_not.1 h2,fun s hs=>?_,?_,?_,by omega⟩
 ·obtain⟨k,hk,rfl⟩:=List.getElem_of_mem hs;have H:=h5 k hk;obtain⟨r,d,w⟩:=versE_zero H.nt H.v;exact⟨H.e,H.n,H.nt,fun hf=>by have:=H.nf;have h9:¬1<l[k].vers.length:=fun h9=>this ⟨h9,hf⟩;omega,by have:=H.lim;omega,r,d,w⟩
 ·rw[List.nodup_iff_pairwise_ne,List.pairwise_iff_getElem];intro i j hi hj hij e;rw[qM] at hi hj;rw[List.getElem_map,List.getElem_map] at e;have:=findP_le hi e;have:=(h5 j hj).f;omega
 ·rw[List.pairwise_iff_getElem];intro i j hi hj hij e;have h6:=(h5 j hj).o;cases hfi:l[i].frozen
  ·exfalso;refine h6 ⟨e,?_⟩;unfold openB;exact List.any_eq_true.2 ⟨l[i],List.mem_iff_getElem.2 ⟨i,by rw[qK];omega,List.getElem_take ..⟩,by rw[hfi];rfl⟩
  ·rfl



section
variable {P:Program} {ops:Array Oper} {Q:Exit→Act→World→Prop} {md:Region.Mode} {C:World→Prop} {hs:List Nat} {Rl:World→World→Prop} {Φ:Nat→SPR Rl} {m:Nat}
def kindP (hs:List Nat)(m:Nat)(pre:List Nat)(k:Nat):Nat:=if Nat.beq k m then 2 else if pre.contains k then 3 else if hs.contains k then 1 else 0
def wpRP (P:Program)(md:Region.Mode)(ops:Array Oper)(C:World→Prop)(hs:List Nat){Rl:World→World→Prop}(Φ:Nat→SPR Rl)(m:Nat)(pre:List Nat)(fin:Act→(Nat→World→Prop)→Prop):List Oper→Nat→Act→(Nat→World→Prop)→Prop
 |[],_,a,G=>fin a G
 |o::l,k,a,G=>
  if kindP hs m pre k=2 then fin a G
  else if kindP hs m pre k=3 then wpRP P md ops C hs Φ m pre fin l (k+1) a G
  else if Region.wanted o (yielded ops a.tmps)=true then
   if kindP hs m pre k=1 then Safe P md ops C Φ k o a G∧∀v,Joint C G ((Φ k).p v)→wpRP P md ops C hs Φ m pre fin l (k+1) (a.put o.dst v) (Qdt G k ((Φ k).p v))
   else o.quiet P a C (fun a'=>wpRP P md ops C hs Φ m pre fin l (k+1) a' G)
  else wpRP P md ops C hs Φ m pre fin l (k+1) (a.put o.dst undef) G
structure WP (P:Program)(md:Region.Mode)(ops:Array Oper)(C:World→Prop){Rl:World→World→Prop}(hs:List Nat)(Φ:Nat→SPR Rl)(m:Nat)(pre:List Nat)(fin:Act→(Nat→World→Prop)→Prop)(l:List Oper)(k:Nat)(a:Act)(G:Nat→World→Prop):Prop where
 h:wpRP P md ops C hs Φ m pre fin l k a G
end
section
variable {P:Program} {ops:Array Oper} {Q:Exit→Act→World→Prop} {md:Region.Mode} {C:World→Prop} {hs:List Nat} {Rl:World→World→Prop} {Φ:Nat→SPR Rl} {m:Nat} {pre:List Nat} {fin:Act→(Nat→World→Prop)→Prop} {T:Type} {f:T→World} {a:Act} {G:Nat→World→Prop} {o:Oper} {l:List Oper} {k:Nat}
end


theorem valid_lo (s:ByteArray)(h:s.size<1):QaM s=false:=by
 unfold QaM;rw[decide_eq_false (by omega)];rfl
theorem valid_hi (s:ByteArray)(h:40<s.size):QaM s=false:=by
 unfold QaM;rw[decide_eq_false (by omega)];rfl
theorem valid_mid (s:ByteArray)(h:1≤s.size)(h2:s.size≤40):QaM s=okW s.data.toList:=by
 unfold QaM;rw[decide_eq_true ⟨h,h2⟩];rfl
theorem width_of (s:ByteArray):Qaq s=if QaM s then Qdh s.data.toList else 0:=by
 by_cases h1:s.size<1
 ·rw[valid_lo s h1];have hl:s.data.toList.length=s.size:=(by simp);have:s.data.toList=[]:=List.eq_nil_of_length_eq_zero (by rw[hl];omega);unfold Qaq;rw[this];simp[Qdh]
 ·by_cases h2:40<s.size
  ·rw[valid_hi s h2];unfold Qaq;rw[if_pos h2];rfl
  ·rw[valid_mid s (by omega) (by omega)];unfold Qaq;rw[if_neg h2]
def short (s:ByteArray)(m:Nat):ByteArray:=s.extract 0 (min s.size m)







def PE (O:Nat)(a b:Option Nat)(i:Nat):Prop:=O<i∧some i≠a∧some i≠b
structure PS (w0 w:World)(ob:Option Nat)(qv:Value)(queue:List LineP)(pv:Value)(pages:List PageP):Prop where
 bw:Below w0.heap.size w0 w
 q:Que w w0.heap.size 56 ob qv (queue.map (Av.mk:LineP→OldL w0.heap.size))
 pg:OwnP w w0.heap.size 43 pv pages (fun i=>w0.heap.size≤i∧some i≠ob)
structure PG (w0 w:World)(O:Nat)(ob:Option Nat)(qv:Value)(queue:List LineP)(pv:Value)(pages:List PageP)(bv:Value)(bl:List LineP)(nv:Value)(nl:List LineP):Prop where
 bw:Below w0.heap.size w0 w
 q:Que w w0.heap.size 56 ob qv (queue.map (Av.mk:LineP→OldL w0.heap.size))
 pg:OwnP w w0.heap.size 43 pv pages (fun i=>(w0.heap.size≤i∧i<O)∧some i≠ob)
 o:ABox w O 43 [.int .i64 0,.int .i64 0,.int .i64 0,.int .i64 0,bv,nv]
 oq:some O≠ob
 og:w0.heap.size≤O
 b:OwnP w (O+1) 56 bv bl (PE O ob nv.ownBlock)
 n:OwnP w (O+1) 56 nv nl (PE O ob bv.ownBlock)
section
variable {w0 w w':World} {O:Nat} {ob:Option Nat} {qv:Value} {queue:List LineP} {pv:Value} {pages:List PageP} {bv nv:Value} {bl nl:List LineP}
end


structure LB (w:World)(b:Nat)(A:Option Addr)(c:Nat)(l:List SectP):Prop where
 bx:ABox w b 25 [.int .i64 500,.int .i64 4,.slice A l.length c]
 sm:SM w A c l
theorem region_cut {P:Program}{c:Code}{a:Act}{w:World}{Q:Exit→Act→World→Prop}(R:Act→Act→World→Prop)(h1:c.wp P (fun e a' w'=>e=.normal∧R a a' w') a w)(h2:∀a' w',R a a' w'→Q .normal a' w'):c.wp P Q a w:=
 wp_mono h1 (fun e a' w' h=>by obtain⟨rfl,h⟩:=h;exact h2 a' w' h)
structure LM (m h:Int)(w:World)(b:Nat)(A:Option Addr)(c:Nat)(l:List SectP):Prop where
 bx:ABox w b 25 [.int .i64 m,.int .i64 h,.slice A l.length c]
 sm:SM w A c l
structure LT (w:World)(x:Nat)(A:Option Addr)(c:Nat)(B:Option Addr)(d:Nat)(a b:List (List Word)):Prop where
 bx:ABox w x 36 [.slice A a.length c,.slice B b.length d]
 tm:TM w A c B d a b
theorem pageS_at {w:World}{S:Nat→Prop}{A:Option Addr}{c:Nat}{l:List PageP}(h:Sl w S A c l){k:Nat}(hk:k<l.length):
 ∃b o A1 c1 A2 c2,A=some ⟨b,o,none⟩∧S b∧b<w.heap.size∧w.cell? ⟨b,o+k*6,none⟩=some (.int .i64 l[k].num)∧w.cell? ⟨b,o+k*6+1,none⟩=some (.int .i64 l[k].suf)∧w.cell? ⟨b,o+k*6+2,none⟩=some (.int .i64 l[k].entry)∧ w.cell? ⟨b,o+k*6+3,none⟩=some (.int .i64 l[k].ver)∧w.cell? ⟨b,o+k*6+4,none⟩=some (.slice A1 l[k].body.length c1)∧w.cell? ⟨b,o+k*6+5,none⟩=some (.slice A2 l[k].notes.length c2)∧Sl w S A1 c1 l[k].body∧Sl w S A2 c2 l[k].notes:=by
 obtain⟨b,o,va,vb,rfl,hb,hlt,h0,h1,h2,h3,h4,h5,⟨A1,c1,e1,r1,-⟩,⟨A2,c2,e2,r2,-⟩⟩:=Qd6 h hk;cases e1;cases e2;exact⟨b,o,A1,c1,A2,c2,rfl,hb,hlt,h0,h1,h2,h3,h4,h5,r1,r2⟩




theorem Qdg {P:Program}{fn:Func}{p q r:Tmp}{ty:TypeId}(h:fn.results=#[.cell p ty,.tmp q,.tmp r])(tmps:Array Value)(w:World)(g:Nat)(t:TypeId)(cs:Array Value)(fr:Nat × Nat)(d:TypeDesc) (hp:tmps.getD p undef=.pointer (some ⟨g,0,none⟩)) (hg:w.heap[g]? =some (.cells cs t fr)) (hu:P.underlying ty=some d) (hd:(match d with|.struct _|.array _ _=>true|_=>false)=true) (hi:(P.info? ty).map (·.size)=some cs.size):
 (results fn tmps).run P w=.ok (.tuple #[.agg cs,tmps.getD q undef,tmps.getD r undef]) w:=by
 have hp':tmps[p]?.getD undef=.pointer (some ⟨g,0,none⟩):=by simpa using hp
 simp[results,h,hp',asAddr,run_loadVar_row w g t ty cs fr d hg hu hd hi]
set_option maxRecDepth 100000 in
theorem rfind_any (A:Option Addr)(c:Nat)(l:List SectP)(m h e:Int)(w:World)(hs:Sl w (fun b=>b<w.heap.size) A c l)(h63:l.length≤1073741824):
 Calls Tryz.prog 57 #[.agg #[.int .i64 m,.int .i64 h,.slice A l.length c],.int .i64 e] w fun x w'=>x=.returned (.int .i64 (Qa6 l e))∧Below w.heap.size w w':=by
 obtain⟨wb,hwb⟩:∃wb,w.alloc (.cells #[.int .i64 m,.int .i64 h,.slice A l.length c] 25)=wb:=⟨_,rfl⟩;have hba:Below w.heap.size w wb:=by rw[←hwb];exact bR.alloc nL _
 have hx0:ABox wb w.heap.size 25 [.int .i64 m,.int .i64 h,.slice A l.length c]:=by rw[←hwb];exact heap_alloc_new w _
 have c2:=hx0.cell 2 rfl;have HS:=Lh (hs.to hba);have HB:=Lh hba;have hlc:l.length≤c:=hs.1;clear hs hba hx0;go_enter Tryz.func57,Tryz.ntmps57;go_upto_region 1 with(fail);(try rw[hwb]);clear hwb;go_wp2_with fail;go_loopw [5] (fun i wr=>∃k:Nat,k≤l.length∧i=.int .i64 k∧Hid (∀i (hi:i<l.length),i<k→l[i].entry≠e)∧wr=wb) (fun i _=>l.length-(intOf i).toNat);(case atStart=>exact⟨0,Nat.zero_le _,rfl,Lh (fun i hi h=>absurd h (Nat.not_lt_zero _)),rfl⟩);case round=>
  obtain⟨k,hk,rfl,HN,rfl⟩:=hrel;by_cases hlt:k<l.length
  ·obtain⟨b,o,Ag,cg,An,cn,rfl,_,hbl,k0,-,-,-,-,-,-⟩:=QbO HS.out hlt;have hkl:(k:Int)<(l.length:Int):=(by omega);have HX:Hid (∃x,l[k]=x):=Lh ⟨_,rfl⟩;obtain⟨x,hx⟩:=HX.out;have HXE:=Lh hx;rw[hx] at k0;clear hx HX;by_cases hq:x.entry=e
   ·have HF:Hid (Qa6 l e=(k:Int)):=Lh (QdD hlt (by rw[HXE.out];exact hq) (fun i hi=>HN.out i (by omega) hi));go_wp2_with fail;go_ret;exact⟨by rw[HF.out];rfl,HB.out⟩
   ·have HN2:Hid (∀i (hi:i<l.length),i<k+1→l[i].entry≠e):=Lh (fun i hi h=>by
     by_cases hik:i=k
     ·subst hik;rw[HXE.out];exact hq
     ·exact HN.out i hi (by omega))
    go_wp2_with fail;go_roundw;(case rel=>exact⟨k+1,by omega,by go_num,HN2,trivial⟩);case measure=>simp[intOf];omega
  ·have HF:Hid (Qa6 l e= -1):=Lh (findP_none fun i hi=>HN.out i hi (by omega));go_wp2_with fail;go_ret;exact⟨by rw[HF.out];rfl,HB.out⟩
def QbT (l:List SectP)(e v:Int):Option TextP:=(l[l.findIdx (fun s=>decide (s.entry=e))]?).bind fun s=>s.texts[s.vers.findIdx (fun x=>decide (x=v))]?
theorem QcW {l:List SectP}{e v:Int}(h:Qa6 l e= -1):QbT l e v=none:=by
 unfold Qa6 at h;unfold QbT;split at h
 ·omega
 ·rename_i h1;rw[List.getElem?_eq_none (by omega)];rfl
theorem findP_idx {l:List SectP}{e:Int}{k:Nat}(h:Qa6 l e=(k:Int)):l.findIdx (fun s=>decide (s.entry=e))=k:=by
 unfold Qa6 at h;split at h<;>omega
theorem QcV {l:List SectP}{e v:Int}{k:Nat}{x:SectP}(h:Qa6 l e=(k:Int))(hk:k<l.length)(hx:l[k]=x)(ht:x.texts.length≤x.vers.length)(hn:Qdf x.vers v= -1):QbT l e v=none:=by
 unfold QbT;rw[findP_idx h,qG hk,hx,Option.bind_some,List.getElem?_eq_none];unfold Qdf at hn;split at hn<;>omega
theorem QdM {l:List SectP}{e v:Int}{k j:Nat}{x:SectP}(h:Qa6 l e=(k:Int))(hk:k<l.length)(hx:l[k]=x)(hj:j<x.texts.length)(hn:Qdf x.vers v=(j:Int)):QbT l e v=some x.texts[j]:=by
 have hj1:x.vers.findIdx (fun x=>decide (x=v))=j:=by
  unfold Qdf at hn;split at hn<;>omega
 unfold QbT;rw[findP_idx h,qG hk,hx,Option.bind_some,hj1,qG hj]
def TxtP (o:Option TextP)(e:Ending)(W':World):Prop:=∃Aa ca Ab cb,e=.returned (.tuple #[.agg #[.slice Aa (o.getD ⟨[],[]⟩).a.length ca,.slice Ab (o.getD ⟨[],[]⟩).b.length cb],.bool o.isSome])∧Sl W' (fun b=>b<W'.heap.size) Aa ca (o.getD ⟨[],[]⟩).a∧Sl W' (fun b=>b<W'.heap.size) Ab cb (o.getD ⟨[],[]⟩).b
theorem TxtP.no {o:Option TextP}(W':World)(h:o=none):TxtP o (.returned (.tuple #[.agg #[.slice none 0 0,.slice none 0 0],.bool false])) W':=by
 subst h;exact⟨none,0,none,0,rfl,Sl.nil _ _ _ _ (Nat.zero_le _),Sl.nil _ _ _ _ (Nat.zero_le _)⟩
theorem TxtP.yes {o:Option TextP}{z:TextP}{W':World}{Aa Ab:Option Addr}{ca cb:Nat}(h:o=some z)(h1:Sl W' (fun b=>b<W'.heap.size) Aa ca z.a)(h2:Sl W' (fun b=>b<W'.heap.size) Ab cb z.b):TxtP o (.returned (.tuple #[.agg #[.slice Aa z.a.length ca,.slice Ab z.b.length cb],.bool true])) W':=by
 subst h;exact⟨Aa,ca,Ab,cb,rfl,h1,h2⟩
theorem abox2 {w:World}{b:Nat}{t:TypeId}{x y:Value}(h:ABox w b t [x,y])(u v:Value):ABox ((w.setCell ⟨b,0,none⟩ u).setCell ⟨b,1,none⟩ v) b t [u,v]:=(h.set 0 u).set 1 v
theorem QbD {n b:Nat}{w w':World}(h:Below n w w')(hb:n≤b)(u v:Value):Below n w ((w'.setCell ⟨b,0,none⟩ u).setCell ⟨b,1,none⟩ v):=(h.setCell (p:=⟨b,0,none⟩) hb u).setCell (p:=⟨b,1,none⟩) hb v
def InL (n:Nat)(x:LineP):Prop:=0≤x.fr∧x.fr<x.un∧x.un≤n
theorem lines_in (ws:List Word)(wd:List Int)(m first:Int)(N:Nat)(h0:0≤first)(hN:first+ws.length≤N):∀(es:List Nat) (i:Nat),endsF i ws.length es→∀x∈Qan ws wd m first i es,InL N x
 |[],i,_=>by simp[Qan]
 |e::es,i,⟨h1,h2,h3⟩=>by
  rw[Qan];intro x hx;rcases List.mem_cons.1 hx with rfl|hx
  ·exact⟨by show 0≤first+(i:Int);omega,by show first+(i:Int)<first+(e:Int);omega,by show first+(e:Int)≤N;omega⟩
  ·exact lines_in ws wd m first N h0 hN es e h3 x hx
theorem parts_in (m:Int)(N:Nat):∀(l:List (List Word)) (first:Int),0≤first→first+(tot l:Nat)≤N→(∀p∈l,Reg (Qad p) m)→∀q∈Qar m first l,∀x∈q,InL N x
 |[],first,_,_,_=>by simp[Qar]
 |p::l,first,h0,h1,h2=>by
  have ht:tot (p::l)=p.length+tot l:=(by unfold tot;simp);rw[ht] at h1;rw[Qar];intro q hq;rcases List.mem_cons.1 hq with rfl|hq
  ·unfold QdN;exact lines_in p (Qad p) m first N h0 (by omega) _ 0 (QcY (h2 p (by simp)))
  ·exact parts_in m N l (first+p.length) (by omega) (by omega) (fun q hq=>h2 q (by simp[hq])) q hq
theorem okPages_in {a b:List (List Word)}{m h:Int}:∀p∈Qag a b m h,∀x∈p.body++p.notes,InL (tot (a++b)) x:=by
 unfold Qag;split
 ·rename_i hE;obtain⟨hf,⟨h1,h2⟩,hp⟩:=Qa0 hE;intro p hp x hx;unfold Qay at hp;have ht:=QaZ a b;have hr:∀p∈a++b,Reg (Qad p) m:=fun p hp=>hf.reg h1 h2 hp
  have hb:∀x∈QaL a m,InL (tot (a++b)) x:=fun x hx=>by
   unfold QaL at hx;obtain⟨q,hq,hxq⟩:=List.mem_flatten.1 hx;exact parts_in m (tot (a++b)) a 0 (Int.le_refl _) (by omega) (fun p hp=>hr p (List.mem_append_left _ hp)) q hq x hxq
  have hn:∀n∈Qal a b m,∀x∈n,InL (tot (a++b)) x:=fun n hn x hx=>by
   unfold Qal at hn;exact parts_in m (tot (a++b)) b (tot a:Nat) (by omega) (by omega) (fun p hp=>hr p (List.mem_append_right _ hp)) n hn x hx
  have:=Qc7 (InL (tot (a++b))) (Qal a b m) hn h.toNat (Qaj (QaL a m) (Qal a b m)) (QaL a m) [] hb (by simp) p hp;rcases List.mem_append.1 hx with hx|hx
  ·exact this.1 x hx
  ·exact this.2 x hx
 ·intro p hp;simp at hp
theorem coreV_at (m h e:Int):∀(ts:List TextP) (vs:List Int),vs.length=ts.length→∀c∈coreV m h e vs ts,c.entry=e∧∃(j:Nat) (hj:j<ts.length) (hv:j<vs.length),c.ver=vs[j]∧∃q∈Qag ts[j].a ts[j].b m h,c.body=q.body∧c.notes=q.notes
 |[],vs,_=>by simp[coreV]
 |t::ts,[],hl=>by simp at hl
 |t::ts,v::vs,hl=>by
  rw[coreV];intro c hc;rcases List.mem_append.1 hc with hc|hc
  ·obtain⟨q,hq,rfl⟩:=List.mem_map.1 hc;exact⟨rfl,0,by simp,by simp,rfl,q,hq,rfl,rfl⟩
  ·obtain⟨he,j,hj,hv,h1,q,hq,h2⟩:=coreV_at m h e ts vs (by simpa using hl) c hc;exact⟨he,j+1,by simpa using hj,by simpa using hv,h1,q,hq,h2⟩
theorem hasT_at {l:List SectP}(hd:(l.map (·.entry)).Nodup){i:Nat}(hi:i<l.length)(hv:l[i].vers.Nodup){k:Nat}(hk:k<l[i].vers.length):QbT l l[i].entry l[i].vers[k]=l[i].texts[k]? :=by
 unfold QbT
 have h1:l.findIdx (fun s=>decide (s.entry=l[i].entry))=i:=by
  rw[List.findIdx_eq hi];refine⟨by simp,fun j hj=>?_⟩
  have hne:l[j].entry≠l[i].entry:=fun e=>by
   exact(List.pairwise_iff_getElem.1 hd j i (by rw[qM];omega) (by rw[qM];exact hi) hj) (by rw[List.getElem_map,List.getElem_map];exact e)
  simp[hne]
 have h2:l[i].vers.findIdx (fun x=>decide (x=l[i].vers[k]))=k:=by
  rw[List.findIdx_eq hk];refine⟨by simp,fun j hj=>?_⟩
  have hne:l[i].vers[j]≠l[i].vers[k]:=fun e=>by
   exact(List.pairwise_iff_getElem.1 hv j k (by omega) hk hj) e
  simp[hne]
 rw[h1,qG hi,Option.bind_some,h2]
theorem GoodB.text {m h:Int}{l:List SectP}(H:GoodB m h l):∀p∈Qae m h l,∃t,QbT l p.entry p.ver=some t∧Qa5 m h t.a t.b=0∧(∃s∈l,t∈s.texts)∧∀x∈p.body++p.notes,InL (tot (t.a++t.b)) x:=by
 intro p hp;have hc:p.core∈coreS m h l:=by rw[←Qeb];exact List.mem_map_of_mem hp
 unfold coreS at hc;obtain⟨s,hs,hcs⟩:=List.mem_flatMap.1 hc;have g:=H.s s hs;obtain⟨he,j,hj,hv,h1,q,hq,h2,h3⟩:=coreV_at m h s.entry s.texts s.vers g.nt p.core hcs;obtain⟨i,hi,hil⟩:=List.getElem_of_mem hs;subst hil;have h4:=hasT_at H.d hi g.d hv;rw[←h1,←he,qG hj] at h4;refine⟨l[i].texts[j],h4,g.w _ (List.getElem_mem hj),⟨_,List.getElem_mem hi,List.getElem_mem hj⟩,?_⟩;have h5:=okPages_in q hq;have h6:p.body=q.body:=h2;have h7:p.notes=q.notes:=h3;rw[h6,h7];exact h5
structure Seal where
 e:Int
 v:Int
 f:Int
 u:Int
 g:Int
 deriving DecidableEq
def Seal.ok (s:Seal):Prop:=I64 s.e∧I64 s.v∧I64 s.f∧I64 s.u∧I64 s.g
def Seal.cells (s:Seal):List Value:=[.int .i64 s.e,.int .i64 s.v,.int .i64 s.f,.int .i64 s.u,.int .i64 s.g]
instance:Rep Seal where
 size:=5
 R _ _ cs s:=cs=s.cells∧s.ok
 len:=by rintro w S cs s ⟨rfl,_⟩;rfl
 one:=by rintro w S cs s ⟨rfl,_⟩ u hu;simp[Seal.cells] at hu;rcases hu with rfl|rfl|rfl|rfl|rfl<;>rfl
 keep:=by rintro w w' S cs s h _;exact h
 mono:=by rintro w S S' cs s h _;exact h
structure Span where
 f:Int
 u:Int
 deriving DecidableEq
def Span.ok (s:Span):Prop:=I64 s.f∧I64 s.u
def Span.cells (s:Span):List Value:=[.int .i64 s.f,.int .i64 s.u]
instance:Rep Span where
 size:=2
 R _ _ cs s:=cs=Span.cells s∧Span.ok s
 len:=by rintro w S cs s ⟨rfl,_⟩;rfl
 one:=by rintro w S cs s ⟨rfl,_⟩ u hu;simp[Span.cells] at hu;rcases hu with rfl|rfl<;>rfl
 keep:=by rintro w w' S cs s h _;exact h
 mono:=by rintro w S S' cs s h _;exact h
theorem seal_at {w:World}{S:Nat→Prop}{A:Option Addr}{c:Nat}{l:List Seal}(h:Sl w S A c l){k:Nat}(hk:k<l.length):
 ∃b o,A=some ⟨b,o,none⟩∧S b∧b<w.heap.size∧l[k].ok∧w.cell? ⟨b,o+k*5,none⟩=some (.int .i64 l[k].e)∧w.cell? ⟨b,o+k*5+1,none⟩=some (.int .i64 l[k].v)∧ w.cell? ⟨b,o+k*5+2,none⟩=some (.int .i64 l[k].f)∧w.cell? ⟨b,o+k*5+3,none⟩=some (.int .i64 l[k].u)∧w.cell? ⟨b,o+k*5+4,none⟩=some (.int .i64 l[k].g):=by
 obtain⟨b,o,es,rfl,hb,hlt,⟨rfl,hok⟩,hc⟩:=h.at_ hk;exact⟨b,o,rfl,hb,hlt,hok,hc 0 _ rfl,hc 1 _ rfl,hc 2 _ rfl,hc 3 _ rfl,hc 4 _ rfl⟩
def sidx (s:Seal):List Seal→Nat→Int
 |[],_=> -1
 |x::r,k=>if x=s then k else sidx s r (k+1)
theorem sidx_miss (s:Seal)(l:List Seal)(k:Nat)(hk:k<l.length)(h:l[k]≠s):sidx s (l.drop k) k=sidx s (l.drop (k+1)) (k+1):=by
 rw[List.drop_eq_getElem_cons hk,sidx,if_neg h]
theorem sidx_hit (s:Seal)(l:List Seal)(k:Nat)(hk:k<l.length)(h:l[k]=s):sidx s (l.drop k) k=k:=by
 rw[List.drop_eq_getElem_cons hk,sidx,if_pos h]
def vld (s:Seal):Bool:=decide (0≤s.e∧s.e<65536∧0≤s.v∧s.v≤2147483647∧0≤s.f∧s.f<s.u∧s.u≤1048576∧0≤s.g∧s.g<16)
theorem vld_t {s:Seal}(h:0≤s.e∧s.e<65536∧0≤s.v∧s.v≤2147483647∧0≤s.f∧s.f<s.u∧s.u≤1048576∧0≤s.g∧s.g<16):vld s=true:=decide_eq_true h
theorem vld_f {s:Seal}(h:¬(0≤s.e∧s.e<65536∧0≤s.v∧s.v≤2147483647∧0≤s.f∧s.f<s.u∧s.u≤1048576∧0≤s.g∧s.g<16)):vld s=false:=decide_eq_false h
theorem sidx_lo (s:Seal)(l:List Seal)(k:Nat): -1≤sidx s l k∧(0≤sidx s l k↔s∈l):=by
 induction l generalizing k with
 |nil=>simp[sidx]
 |cons x r ih=>
  unfold sidx;by_cases h:x=s
  ·rw[if_pos h];subst h;refine⟨by omega,?_⟩;simp
  ·rw[if_neg h];obtain⟨h1,h2⟩:=ih (k+1);refine⟨h1,h2.trans ?_⟩;simp[Ne.symm h]
theorem sidx_mem (s:Seal)(l:List Seal):0≤sidx s l 0↔s∈l:=(sidx_lo s l 0).2
def saddE (l:List Seal)(s:Seal):List Seal × Int:=if vld s=false then([],5) else if s∈l then([],4) else if 1000≤l.length then([],2) else(l++[s],0)
def gOr (a:Nat)(s:Seal):Nat:=a ||| 2^s.g.toNat
def gset (l:List Seal):Nat:=l.foldl gOr 0
theorem gOr_lt (a:Nat)(s:Seal)(ha:a<65536)(hg:s.g<16):gOr a s<65536:=by
 have h2:2^s.g.toNat<2^16:=Nat.pow_lt_pow_right (by omega) (by omega);exact Nat.or_lt_two_pow (n:=16) ha h2
theorem gset_lt (l:List Seal)(h:∀s∈l,s.g<16):gset l<65536:=by
 unfold gset;suffices H:∀a,a<65536→l.foldl gOr a<65536 from H 0 (by omega);induction l with
 |nil=>intro a ha;exact ha
 |cons x r ih=>intro a ha;exact ih (fun s hs=>h s (List.mem_cons_of_mem _ hs)) _ (gOr_lt a x ha (h x List.mem_cons_self))
theorem gset_succ (l:List Seal)(k:Nat)(h:k<l.length):gset (l.take (k+1))=gOr (gset (l.take k)) l[k]:=by
 unfold gset;rw[qT h,List.foldl_append];rfl
end Go.Proofs.YtegaapiocihcpaaGreatDoor
namespace Go.Proofs.YtegaapiocihcpaaGreatDoor
open Go.RowKit
attribute [local go_sem ↓] Go.wp_at_zero Go.wp_at_succ
theorem eql_seal (a b:Seal)(w:World):(binOp .eql 118 (.agg #[.int .i64 a.e,.int .i64 a.v,.int .i64 a.f,.int .i64 a.u,.int .i64 a.g]) (.agg #[.int .i64 b.e,.int .i64 b.v,.int .i64 b.f,.int .i64 b.u,.int .i64 b.g])).run Tryz.prog w=.ok (.bool (decide (a=b))) w:=by
 obtain⟨a1,a2,a3,a4,a5⟩:=a;obtain⟨b1,b2,b3,b4,b5⟩:=b;simp only[Seal.mk.injEq];go_simp;(repeat' split);all_goals simp[*]
theorem Qcv {w:World}{B:Nat}{s:Seal}{t:TypeId}{fr:Nat × Nat}(hB:w.heap[B]? =some (.cells s.cells.toArray t fr)):
 w.cell? ⟨B,0,none⟩=some (.int .i64 s.e)∧w.cell? ⟨B,1,none⟩=some (.int .i64 s.v)∧w.cell? ⟨B,2,none⟩=some (.int .i64 s.f)∧w.cell? ⟨B,3,none⟩=some (.int .i64 s.u)∧w.cell? ⟨B,4,none⟩=some (.int .i64 s.g):=
 ⟨cell_of_row w _ 0 _ _ _ hB,cell_of_row w _ 1 _ _ _ hB,cell_of_row w _ 2 _ _ _ hB,cell_of_row w _ 3 _ _ _ hB,cell_of_row w _ 4 _ _ _ hB⟩
theorem sindex0_any (A:Option Addr)(c:Nat)(l:List Seal)(s:Seal)(w:World)(hl:Sl w (fun b=>b<w.heap.size) A c l)(_hs:s.ok):
 Calls Tryz.prog 139 #[.slice A l.length c,.agg s.cells.toArray] w fun e w'=>e=.returned (.int .i64 (sidx s l 0))∧Below w.heap.size w w':=by
 have hlen:l.length≤9223372036854775807:=by have:=hl.1;have:=hl.2.1;unfold maxLen at this;omega
 unfold Seal.cells;go_enter Tryz.func139,Tryz.ntmps139;go_wp2
 go_loopw [5] (fun i wr=>∃k:Nat,k≤l.length∧i=.int .i64 k∧Hid (sidx s l 0=sidx s (l.drop k) k)∧Below w.heap.size w wr∧wr.heap[w.heap.size]? =some (.cells s.cells.toArray 118 (0,0))) (fun i _=>l.length-(intOf i).toNat)
 (case atStart=>exact⟨0,Nat.zero_le _,rfl,rfl,bR.alloc nL _,heap_alloc_new w _⟩);case round=>
  obtain⟨k,hk,rfl,hi,hb,hB⟩:=hrel;by_cases hlt:k<l.length
  ·obtain⟨b,o,rfl,hbS,hbl,hok,c0,c1,c2,c3,c4⟩:=seal_at (hl.keep (Kept.all hb) hb.size) hlt;have hkl:(k:Int)<(l.length:Int):=(by omega);have hk0:(0:Int)≤(k:Int):=(by omega);obtain⟨e0,e1,e2,e3,e4⟩:=Qcv hB;have hq:∀w',(binOp .eql 118 (.agg #[.int .i64 l[k].e,.int .i64 l[k].v,.int .i64 l[k].f,.int .i64 l[k].u,.int .i64 l[k].g]) (.agg #[.int .i64 s.e,.int .i64 s.v,.int .i64 s.f,.int .i64 s.u,.int .i64 s.g])).run Tryz.prog w'=.ok (.bool (decide (l[k]=s))) w':=fun w'=>eql_seal _ _ _
   by_cases heq:l[k]=s
   ·rw[decide_eq_true heq] at hq;have Heq:=Lh (sidx_hit s l k hlt heq);clear heq;go_wp2_with fail;go_quiet (fail);go_wp2_with fail;go_ret;exact⟨Qam (by rw[hi.out,Heq.out]),Below.dn hb _⟩
   ·rw[decide_eq_false heq] at hq;have Heq:=Lh (sidx_miss s l k hlt heq);clear heq;go_wp2_with fail;go_quiet (fail);go_wp2_with fail;go_roundw;(case rel=>exact⟨k+1,by omega,by go_num,by rw[hi.out,Heq.out];rfl,Below.dn hb _,hB⟩);case measure=>simp[intOf];omega
  ·go_wp2_with fail;go_ret;exact⟨by rw[hi.out,List.drop_of_length_le (by omega)];rfl,hb⟩
theorem index_n (A:Option Addr)(c n:Nat)(l:List Seal)(s:Seal)(w:World)(hl:Sl w (fun b=>b<w.heap.size) A c l)(hn:l.length=n)(hs:s.ok):
 Calls Tryz.prog 139 #[.slice A n c,.agg #[.int .i64 s.e,.int .i64 s.v,.int .i64 s.f,.int .i64 s.u,.int .i64 s.g]] w fun e w'=>e=.returned (.int .i64 (sidx s l 0))∧Below w.heap.size w w':=by
 subst hn;exact sindex0_any A c l s w hl hs
theorem srvalid_any (s:Seal)(w:World):
 Calls Tryz.prog 138 #[.agg s.cells.toArray] w fun e w'=>e=.returned (.bool (vld s))∧Below w.heap.size w w':=by
 unfold Seal.cells;go_enter Tryz.func138,Tryz.ntmps138;go_wp2;(all_goals go_ret);(all_goals refine⟨QaV ?_,bR.alloc nL _⟩);all_goals first|(symm;apply vld_t;omega)|(symm;apply vld_f;omega)|(unfold vld;apply decide_eq_decide.2;omega)
theorem QbX:(Tryz.prog.info? 118).map (fun i=>(i.zero,i.size,i.bytes))=some (some (.agg #[.int .i64 0,.int .i64 0,.int .i64 0,.int .i64 0,.int .i64 0]),Rep.size Seal,40):=by kernel_rfl
set_option maxRecDepth 100000 in
theorem radd_any (A:Option Addr)(c n:Nat)(l:List Seal)(s:Seal)(w:World)(hl:Sl w (fun b=>b<w.heap.size) A c l)(hn:l.length=n)(hs:s.ok):
 Calls Tryz.prog 95 #[.slice A n c,.agg #[.int .i64 s.e,.int .i64 s.v,.int .i64 s.f,.int .i64 s.u,.int .i64 s.g]] w fun e w'=>∃v,e=.returned (.tuple #[v,.int .i64 (saddE l s).2])∧Own w' w.heap.size 118 v (saddE l s).1∧Below w.heap.size w w':=by
 subst hn;obtain⟨out,er,hae⟩:∃out er,saddE l s=(out,er):=⟨_,_,rfl⟩;rw[hae];unfold saddE at hae;have Hae:=Lh hae;clear hae;have hlen:l.length≤9223372036854775807:=by have:=hl.1;have:=hl.2.1;unfold maxLen at this;omega
 have hbx:(w.alloc (.cells s.cells.toArray 118)).heap[w.heap.size]? =some (.cells s.cells.toArray 118 (0,0)):=heap_alloc_new w _;have Hbx:=Lh hbx;have Hb0:=Lh ((Below.refl w.heap.size w).alloc nL (.cells s.cells.toArray 118));clear hbx;go_enter Tryz.func95,Tryz.ntmps95;go_wp2_with fail;refine(srvalid_any s _).mono ?_;rintro e w1 ⟨rfl,hb1⟩;have hB1:=(hb1.block w.heap.size (by simp)).trans Hbx.out;obtain⟨e0,e1,e2,e3,e4⟩:=Qcv hB1;have hbw1:Below w.heap.size w w1:=Hb0.out.trans (hb1.mono (by simp));have hz1:w.heap.size+1≤w1.heap.size:=by have:=hb1.size;simpa using this
 cases hv:vld s
 ·rw[hv,if_pos rfl] at Hae;obtain⟨rfl,rfl⟩:=Prod.mk.inj Hae.out;have Hv:=Lh hv;clear hv;go_wp2_with fail;go_ret2;exact⟨_,rfl,Own.nil _ _ _,hbw1⟩
 ·rw[hv,if_neg (by simp)] at Hae;have Hv:=Lh hv;have HB1:=Lh hB1;clear hB1 hv;go_wp2_with fail;refine(index_n A c l.length l s _ (hl.to hbw1) rfl hs).mono ?_;rintro e w2 ⟨rfl,hb2⟩;have HB2:=Lh ((hb2.block w.heap.size (by omega)).trans HB1.out);obtain⟨d0,d1,d2,d3,d4⟩:=Qcv HB2.out;have hbw2:Below w.heap.size w w2:=hbw1.trans (hb2.mono hbw1.size);have hz2:w.heap.size+1≤w2.heap.size:=(by have:=hb2.size;omega);clear e0 e1 e2 e3 e4;by_cases hin:s∈l
  ·rw[if_pos hin] at Hae;obtain⟨rfl,rfl⟩:=Prod.mk.inj Hae.out;have hq:0≤sidx s l 0:=(sidx_mem _ _).2 hin;generalize sidx s l 0=q at*;clear hin;go_wp2_with fail;go_ret2;exact⟨_,rfl,Own.nil _ _ _,hbw2⟩
  ·rw[if_neg hin] at Hae;have hq:sidx s l 0<0:=(by have:=mt (sidx_mem s l).1 hin;omega);generalize sidx s l 0=q at*;clear hin;by_cases hbig:1000≤l.length
   ·rw[if_pos hbig] at Hae;obtain⟨rfl,rfl⟩:=Prod.mk.inj Hae.out;go_wp2_with fail;go_ret2;exact⟨_,rfl,Own.nil _ _ _,hbw2⟩
   ·rw[if_neg hbig] at Hae;obtain⟨rfl,rfl⟩:=Prod.mk.inj Hae.out;have hbig':l.length<1000:=(by omega);clear hbig;have hl2:=hl.keep (Kept.all hbw2) hbw2.size
    go_wp2_with (first|(at_builtin;refine QaH (α:=Seal) _ rfl (.tmp 17) (.tmp 18) 26 rfl w.heap.size 118 (.agg #[.int .i64 0,.int .i64 0,.int .i64 0,.int .i64 0,.int .i64 0]) 40 Tryz.underlying26 QbX rfl (by decide) (.slice none 0 0) [] rfl (Own.nil w2 _ _) A c l.length l rfl rfl (fun b=>b<w.heap.size) hl2 (by intro i _ _ e;simp[Value.ownBlock] at e) (by first|omega|(simp;omega)) (by first|omega|(simp;omega)) (by first|omega|(simp;omega)) ?_;intro v3 w3 hown3 hg3 hat3;rw[List.nil_append] at hown3;obtain⟨A3,c3,e3,hs3,hc3,hc3'⟩:=hown3.form;subst e3;have hbb3:Below w2.heap.size w2 w3:=bR.grown hg3 nL (by simp[Value.ownBlock]);obtain⟨f0,f1,f2,f3,f4⟩:=Qcv ((hbb3.block w.heap.size (by omega)).trans HB2.out);have hz3:w.heap.size+1≤w3.heap.size:=by have:=hbb3.size;omega)|(at_builtin;refine Qau (α:=Seal) _ rfl (.tmp 20) (.tmp 22) 26 rfl w.heap.size 118 (.agg #[.int .i64 0,.int .i64 0,.int .i64 0,.int .i64 0,.int .i64 0]) 40 Tryz.underlying26 QbX rfl (by decide) _ _ rfl (hown3.alloc _) w3.heap.size _ s (0,0) 118 rfl (heap_alloc_new w3 _) ⟨rfl,hs⟩ (by first|omega|(simp;omega)) (by first|omega|(simp;omega)) (by first|omega|(simp;omega)) _ rfl ?_;intro g4 cap4 w4 hown4 hg4 hat4 hlt4))
    go_ret2;exact⟨_,rfl,hown4,Qb7 (hbw2.trans (hbb3.mono hbw2.size)) hown3 (by omega) hg4⟩
end Go.Proofs.YtegaapiocihcpaaGreatDoor
namespace Go.Proofs.YtegaapiocihcpaaGreatDoor
open Go.RowKit
attribute [local go_sem ↓] Go.wp_at_zero Go.wp_at_succ
theorem selected_3 (A:Option Addr)(c n:Nat)(l:List Seal)(f:FuncId)(c1 c2 c3:Value)(p:Seal→Bool)(w:World)(hl:Sl w (fun b=>b<w.heap.size) A c l)(hn:l.length=n)(hsz:n≤1048576) (hcf:∀(w':World) (args:Array Value),(callFunc f args).run Tryz.prog w'=.ok (.enter f args) w') (hf:∀(s:Seal) (w':World),Below w.heap.size w w'→Calls Tryz.prog f #[.agg #[.int .i64 s.e,.int .i64 s.v,.int .i64 s.f,.int .i64 s.u,.int .i64 s.g],c1,c2,c3] w' fun e w''=>e=.returned (.bool (p s))∧Below w'.heap.size w' w''):
 Calls Tryz.prog 72 #[.slice A n c,.func (.func f) #[] #[c1,c2,c3]] w fun e w'=>∃v,e=.returned v∧Own w' w.heap.size 118 v (l.filter p)∧Below w.heap.size w w':=by
 subst hn;have Hf:=Lh hf;clear hf;go_enter Tryz.func72,Tryz.ntmps72;go_wp2_with fail;go_loopw [5,10] (fun v i wr=>∃k:Nat,k≤l.length∧i=.int .i64 k∧Own wr w.heap.size 118 v ((l.take k).filter p)∧Below w.heap.size w wr) (fun _ i _=>l.length-(intOf i).toNat);(case atStart=>exact⟨0,Nat.zero_le _,rfl,Own.nil _ _ _,Below.refl _ _⟩);case round=>
  obtain⟨k,hk,rfl,hown,hb⟩:=hrel;have hwz:=hb.size;by_cases hlt:k<l.length
  ·obtain⟨b,o,rfl,hbS,hbl,hok,d0,d1,d2,d3,d4⟩:=seal_at (hl.to hb) hlt;have hkl:(k:Int)<(l.length:Int):=(by omega);have hfl:((l.take k).filter p).length≤1048576:=(by have:=List.length_filter_le p (l.take k);rw[qK] at this;omega);have hbx:(wr.alloc (.cells l[k].cells.toArray 118)).heap[wr.heap.size]? =some (.cells l[k].cells.toArray 118 (0,0)):=heap_alloc_new wr _;have hstep:(l.take (k+1)).filter p=if p l[k] then(l.take k).filter p++[l[k]] else(l.take k).filter p:=by
    rw[qT hlt,List.filter_append];cases hp:p l[k]<;>simp[hp]
   have HS:=Lh hstep;clear hstep;have Hbx:=Lh hbx;clear hbx;obtain⟨A1,c1',rfl,hs⟩:=hown.sl;go_wp2_with fail;refine(Hf.out l[k] _ (hb.alloc (by omega) _)).mono ?_;rintro e w1 ⟨rfl,hb1⟩;have hB1:=(hb1.block wr.heap.size (by simp)).trans Hbx.out;obtain⟨e0,e1,e2,e3,e4⟩:=Qcv hB1;clear hB1 d0 d1 d2 d3 d4;have hbb1:Below wr.heap.size wr w1:=(bR.alloc nL _).trans (hb1.mono (by simp));have hz:=hbb1.size;have hown1:=hown.below hbb1;have hbw1:Below w.heap.size w w1:=hb.trans (hbb1.mono hb.size);clear hb1 hs;cases hp:p l[k]
   ·rw[hp] at HS;have Hp:=Lh hp;clear hp;go_wp2_with fail;go_roundw;(case rel=>exact⟨k+1,by omega,by go_num,by rw[HS.out];exact hown1,hbw1⟩);case measure=>simp[intOf];omega
   ·rw[hp] at HS;have Hp:=Lh hp;clear hp;go_wp2_with (at_builtin;refine Qau (α:=Seal) _ rfl (.tmp 17) (.tmp 19) 26 rfl w.heap.size 118 (.agg #[.int .i64 0,.int .i64 0,.int .i64 0,.int .i64 0,.int .i64 0]) 40 Tryz.underlying26 QbX rfl (by decide) _ _ rfl (hown1.alloc _) w1.heap.size _ l[k] (0,0) 118 rfl (heap_alloc_new w1 _) ⟨rfl,hok⟩ (by omega) (by omega) (by simp;omega) _ rfl ?_;intro g cap w2 hown2 hg2 hat2 hlt2);go_roundw;(case rel=>exact⟨k+1,by omega,by go_num,by rw[HS.out];exact hown2,Qb7 hbw1 hown1 (by omega) hg2⟩);case measure=>simp[intOf];omega
  ·go_wp2_with fail;go_ret;exact⟨_,rfl,by rw[List.take_of_length_le (by omega)] at hown;exact hown,hb⟩
def onP (e v x:Int)(s:Seal):Bool:=decide (s.e=e∧s.v=v∧s.f≤x∧x<s.u)
theorem onP_t {e v x:Int}{s:Seal}(h:s.e=e∧s.v=v∧s.f≤x∧x<s.u):onP e v x s=true:=decide_eq_true h
theorem onP_f {e v x:Int}{s:Seal}(h:¬(s.e=e∧s.v=v∧s.f≤x∧x<s.u)):onP e v x s=false:=decide_eq_false h
theorem onP_any (s:Seal)(p1 p2 p3:Addr)(e v x:Int)(w:World)(h1:w.cell? p1=some (.int .i64 e))(h2:w.cell? p2=some (.int .i64 v))(h3:w.cell? p3=some (.int .i64 x)):
 Calls Tryz.prog 73 #[.agg #[.int .i64 s.e,.int .i64 s.v,.int .i64 s.f,.int .i64 s.u,.int .i64 s.g],.pointer (some p1),.pointer (some p2),.pointer (some p3)] w fun r w'=>r=.returned (.bool (onP e v x s))∧Below w.heap.size w w':=by
 have g1:=World.block_lt_of_cell? w p1 h1;have g2:=World.block_lt_of_cell? w p2 h2;have g3:=World.block_lt_of_cell? w p3 h3;have k1:∀o,(w.alloc o).cell? p1=some (.int .i64 e):=fun o=>(World.cell?_alloc_lt w o p1 g1).trans h1
 have k2:∀o,(w.alloc o).cell? p2=some (.int .i64 v):=fun o=>(World.cell?_alloc_lt w o p2 g2).trans h2
 have k3:∀o,(w.alloc o).cell? p3=some (.int .i64 x):=fun o=>(World.cell?_alloc_lt w o p3 g3).trans h3
 clear h1 h2 h3;go_enter Tryz.func73,Tryz.ntmps73;go_wp2;(all_goals go_ret);(all_goals refine⟨QaV ?_,bR.alloc nL _⟩);(all_goals clear k1 k2 k3);all_goals first|(symm;apply onP_t;omega)|(symm;apply onP_f;omega)|(unfold onP;apply decide_eq_decide.2;omega)
theorem ofInt_i64 (a:Nat)(ha:a<9223372036854775808):(BitVec.ofInt 64 (a:Int)).toNat=a:=by
 rw[BitVec.ofInt_natCast,BitVec.toNat_ofNat];exact Nat.mod_eq_of_lt (by omega)
theorem i64_or_nat (a b:Nat)(ha:a<9223372036854775808)(hb:b<9223372036854775808):bits .or .i64 (a:Int) (b:Int)=((a ||| b:Nat):Int):=by
 have hx:a ||| b<2^63:=Nat.or_lt_two_pow (by omega) (by omega);show IntKind.i64.wrap ((BitVec.ofInt 64 (a:Int) ||| BitVec.ofInt 64 (b:Int)).toNat:Int)=_;rw[BitVec.toNat_or,ofInt_i64 a ha,ofInt_i64 b hb,IntKind.wrap_i64];omega
theorem or_shl (G:Nat)(g:Int)(hG:G<65536)(h0:0≤g)(h1:g<16):bits .or .i64 (G:Int) (wrap64 (2^g.toNat))=((G ||| 2^g.toNat:Nat):Int):=by
 have hp:2^g.toNat<2^16:=Nat.pow_lt_pow_right (by omega) (by omega);have e:(2:Int)^g.toNat=((2^g.toNat:Nat):Int):=by simp
 rw[e];generalize 2^g.toNat=m at*;have e2:wrap64 (m:Int)=m:=by unfold wrap64;omega
 rw[e2,i64_or_nat G m (by omega) (by omega)]
def may (G:Nat)(x:Int):Bool:=decide (BitVec.ofNat 64 G &&& BitVec.ofInt 64 x=BitVec.ofNat 64 G)
theorem bv_andn (a b:BitVec 64):a &&& ~~~b=0↔a &&& b=a:=by
 constructor
 ·intro h;ext i hi;have h1:=congrArg (fun x:BitVec 64=>x[i]'hi) h;simp at h1;simp;exact h1
 ·intro h;ext i hi;have h1:=congrArg (fun x:BitVec 64=>x[i]'hi) h;simp at h1;simp;exact h1
theorem may_andn (G:Nat)(x:Int):(bits .andNot .i64 (G:Int) x==0)=may G x:=by
 have e:bits .andNot .i64 (G:Int) x=IntKind.i64.wrap ((BitVec.ofNat 64 G &&& ~~~ BitVec.ofInt 64 x).toNat:Int):=by
  rw[←BitVec.ofInt_natCast];rfl
 rw[Bool.eq_iff_iff,may,decide_eq_true_iff,beq_iff_eq,e,IntKind.wrap_i64,←bv_andn,←BitVec.toNat_inj];clear e;generalize BitVec.ofNat 64 G &&& ~~~ BitVec.ofInt 64 x=r;have hr:=r.isLt;simp;omega
theorem groups_any (A:Option Addr)(c n:Nat)(l:List Seal)(e v x:Int)(w:World)(hl:Sl w (fun b=>b<w.heap.size) A c l)(hn:l.length=n)(hsz:n≤1048576)(hg:∀s∈l,0≤s.g∧s.g<16):
 Calls Tryz.prog 29 #[.slice A n c,.int .i64 e,.int .i64 v,.int .i64 x] w fun r w'=>r=.returned (.int .i64 ((gset (l.filter (onP e v x)):Nat):Int))∧Below w.heap.size w w':=by
 generalize hm:l.filter (onP e v x)=m;have Hm:=Lh hm;clear hm;have hb0:Below w.heap.size w (((w.alloc (.cells #[.int .i64 e] 3)).alloc (.cells #[.int .i64 v] 3)).alloc (.cells #[.int .i64 x] 3)):=
  ((bR.alloc nL _).alloc (by simp) _).alloc (by simp;omega) _
 have Hb0:=Lh hb0;have Hl0:=Lh (hl.to hb0);have hc1:(((w.alloc (.cells #[.int .i64 e] 3)).alloc (.cells #[.int .i64 v] 3)).alloc (.cells #[.int .i64 x] 3)).cell? ⟨w.heap.size,0,none⟩=some (.int .i64 e):=by go_simp
 have hc2:(((w.alloc (.cells #[.int .i64 e] 3)).alloc (.cells #[.int .i64 v] 3)).alloc (.cells #[.int .i64 x] 3)).cell? ⟨w.heap.size+1,0,none⟩=some (.int .i64 v):=by go_simp
 have hc3:(((w.alloc (.cells #[.int .i64 e] 3)).alloc (.cells #[.int .i64 v] 3)).alloc (.cells #[.int .i64 x] 3)).cell? ⟨w.heap.size+2,0,none⟩=some (.int .i64 x):=by go_simp
 clear hb0;go_enter Tryz.func29,Tryz.ntmps29;go_wp2_with fail;refine(selected_3 A c n l 73 _ _ _ (onP e v x) _ Hl0.out hn hsz (fun _ _=>by kernel_rfl) (fun s w' hb=>onP_any s _ _ _ e v x w' ((hb.cell (by first|(simp;done)|(simp;omega))).trans hc1) ((hb.cell (by first|(simp;done)|(simp;omega))).trans hc2) ((hb.cell (by first|(simp;done)|(simp;omega))).trans hc3))).mono ?_;rintro r w1 ⟨v1,rfl,hown1,hb1⟩;rw[Hm.out] at hown1;have hfl:m.length≤1048576:=by have:=List.length_filter_le (onP e v x) l;rw[Hm.out] at this;omega
 have hgf:∀s∈m,0≤s.g∧s.g<16:=fun s hs=>hg s (List.mem_filter.1 (by rw[Hm.out];exact hs:s∈l.filter (onP e v x))).1
 have hbw1:Below w.heap.size w w1:=Hb0.out.trans (hb1.mono (by simp;omega));obtain⟨A1,c1,rfl,hs1⟩:=hown1.sl;have Hgf:=Lh hgf;clear hc1 hc2 hc3 hb1 hown1 hgf hg Hb0 Hl0;go_wp2_with fail;go_loopw [9,16] (fun o i wr=>∃k:Nat,k≤m.length∧i=.int .i64 k∧o=.int .i64 ((gset (m.take k):Nat):Int)∧Below w1.heap.size w1 wr) (fun _ i _=>m.length-(intOf i).toNat);(case atStart=>exact⟨0,Nat.zero_le _,rfl,rfl,Below.refl _ _⟩);case round=>
  obtain⟨k,hk,rfl,rfl,hb⟩:=hrel;by_cases hlt:k<m.length
  ·obtain⟨b,o,rfl,hbS,hbl,hok,d0,d1,d2,d3,d4⟩:=seal_at (hs1.to hb) hlt;have hkl:(k:Int)<(m.length:Int):=(by omega);have hG:=gset_lt (m.take k) (fun s hs=>(Hgf.out s (List.mem_of_mem_take hs)).2);have hg2:=Hgf.out m[k] (List.getElem_mem _);have HS:=Lh (gset_succ m k hlt);have HO:=Lh (or_shl (gset (m.take k)) m[k].g hG hg2.1 hg2.2);unfold gOr at HS;obtain⟨hg0,hg1⟩:=hg2;generalize gset (m.take k)=G at*;go_wp2_with fail;go_roundw;(case rel=>exact⟨k+1,by omega,by go_num,by rw[HS.out,←HO.out],hb.alloc hb.size _⟩);case measure=>simp[intOf];omega
  ·go_wp2_with fail;go_ret;exact⟨Qam (by rw[List.take_of_length_le (by omega)]),hbw1.trans (hb.mono hbw1.size)⟩
end Go.Proofs.YtegaapiocihcpaaGreatDoor
namespace Go.Proofs.YtegaapiocihcpaaGreatDoor
open Go.RowKit
attribute [local go_sem ↓] Go.wp_at_zero Go.wp_at_succ
theorem may_any (A:Option Addr)(c n:Nat)(l:List Seal)(gs e v x:Int)(w:World)(hl:Sl w (fun b=>b<w.heap.size) A c l)(hn:l.length=n)(hsz:n≤1048576)(hg:∀s∈l,0≤s.g∧s.g<16):
 Calls Tryz.prog 30 #[.slice A n c,.int .i64 gs,.int .i64 e,.int .i64 v,.int .i64 x] w fun r w'=>r=.returned (.bool (may (gset (l.filter (onP e v x))) gs))∧Below w.heap.size w w':=by
 have Hg:=Lh hg;have Hm:=Lh (may_andn (gset (l.filter (onP e v x))) gs);clear hg;go_enter Tryz.func30,Tryz.ntmps30;go_wp2_with fail;refine(groups_any A c n l e v x w hl hn hsz Hg.out).mono ?_;rintro r w1 ⟨rfl,hb⟩;have Hb:=Lh hb;clear hb;go_wp2_with fail;go_ret;exact⟨QaV Hm.out,Hb.out⟩
end Go.Proofs.YtegaapiocihcpaaGreatDoor
namespace Go.Proofs.YtegaapiocihcpaaGreatDoor
open Go.RowKit
theorem nd_le:∀(k u:Nat),u<10^(k+1)→Lib.nDigits u≤k+1
 |0,u,h=>by rw[Lib.nDigits_small (by simpa using h)];exact Nat.le_refl _
 |k+1,u,h=>by
  by_cases h10:u<10
  ·rw[Lib.nDigits_small h10];omega
  ·rw[Lib.nDigits_big h10];have:=nd_le k (u/10) (by rw[Nat.pow_succ] at h;omega);omega
theorem dec_len (m:Nat)(hm:m≤9223372036854775808):(Lib.decDigits m).length≤19:=by
 rw[Lib.decDigits_length];exact nd_le 18 m (by omega)
def box (n:Int):ByteArray:=⟨(91::(Lib.itoa n++[93])).toArray⟩
theorem itoa_len (n:Int)(hn:I64 n):(Lib.itoa n).length≤20:=by
 unfold Lib.itoa;split
 ·have:=dec_len n.natAbs (by have:=hn.1;omega);simp;omega
 ·have:=dec_len n.toNat (by have:=hn.2;omega);omega
def QaF (t:TextP):List Word:=(t.a++t.b).flatten
theorem Qdl (t:TextP):(QaF t).length=tot (t.a++t.b):=by
 unfold QaF tot;simp[List.length_flatten]
def seeB (sl:List Seal)(gs e v x:Int):Bool:=may (gset (sl.filter (onP e v x))) gs
def Qc1 (sl:List Seal)(gs e v x:Int)(s:ByteArray):ByteArray:=if seeB sl gs e v x=true then s else box (Qaq s)
def noW:Word:=⟨⟨#[]⟩,⟨#[]⟩,0,0⟩
def lineW (sl:List Seal)(gs e v:Int)(ws:List Word)(x:LineP):List ByteArray:=(List.range (x.un-x.fr).toNat).map fun(i:Nat)=>Qc1 sl gs e v (x.fr+(i:Int)) (ws.getD (x.fr.toNat+i) noW).s
def Qbg (l:List ByteArray):ByteArray:=⟨(Lib.join (l.map (·.data.toList)) [32]).toArray⟩
def Qa4 (sl:List Seal)(gs e v:Int)(ws:List Word)(x:LineP):ByteArray:=Qbg (lineW sl gs e v ws x)
structure SheetP where
 label:ByteArray
 body:List ByteArray
 notes:List ByteArray
def labS (p:PageP):ByteArray:=labT p.num.toNat p.suf.toNat
def Qb4 (sl:List Seal)(p:PageP)(ws:List Word):SheetP:=⟨labS p,p.body.map (Qa4 sl 0 p.entry p.ver ws),p.notes.map (Qa4 sl 0 p.entry p.ver ws)⟩
def QbG (n:Int):Bool:=decide (4≤n∧n≤480∧n%2=0)
def Qc8 (r:Nat):List UInt8:=if r=2 then[69,105] else if r=4 then[105] else if r=6 then[116] else if r=8 then[97] else if r=10 then[69] else[]
def Qbu (n:Nat):Nat:=if n%12=2 then n/12-1 else n/12
def Qcd (n:Int):ByteArray:=if QbG n then⟨(List.replicate (Qbu n.toNat) 109++Qc8 (n.toNat%12)).toArray⟩ else⟨#[]⟩
theorem fillS_no {n:Int}(h:¬(4≤n∧n≤480∧n%2=0)):Qcd n=⟨#[]⟩∧QbG n=false:=by
 have:QbG n=false:=decide_eq_false h;unfold Qcd;rw[this];exact⟨rfl,rfl⟩
theorem fillS_yes {n:Nat}(h1:4≤n)(h2:n≤480)(h3:n%2=0):Qcd (n:Int)=⟨(List.replicate (Qbu n) 109++Qc8 (n%12)).toArray⟩∧QbG (n:Int)=true:=by
 have:QbG (n:Int)=true:=decide_eq_true (by omega);unfold Qcd;rw[this];exact⟨rfl,rfl⟩
theorem fill_law:∀n:Nat,n<481→QbG (n:Int)=true→QaM (Qcd (n:Int))=true∧Qaq (Qcd (n:Int))=(n:Int):=by decide +kernel
theorem fill_int (n:Int)(h:QbG n=true):QaM (Qcd n)=true∧Qaq (Qcd n)=n:=by
 have h':=h;unfold QbG at h';rw[decide_eq_true_iff] at h';obtain⟨m,rfl⟩:=Int.eq_ofNat_of_zero_le (show 0≤n by omega);exact fill_law m (by omega) h
theorem sumW_even (l:List UInt8):Qdh l%2=0:=by
 induction l with
 |nil=>rfl
 |cons c r ih=>have:=gw_pos c.toNat c.toNat_lt;simp only[Qdh];omega
theorem fill_width (s:ByteArray):QbG (Qaq s)=QaM s:=by
 rw[Bool.eq_iff_iff];constructor
 ·intro h;unfold QbG at h;rw[decide_eq_true_iff] at h;rw[QdG,decide_eq_true_iff];omega
 ·intro h;have hw:=width_of s;rw[h,if_pos rfl] at hw;unfold QaM at h;rw[Bool.and_eq_true,decide_eq_true_iff] at h;have h1:=sumW_pos _ h.2;have h2:=QdY s.data.toList;have h3:=sumW_even s.data.toList;have hl:s.data.toList.length=s.size:=(by simp);unfold QbG;rw[decide_eq_true_iff,hw];omega
theorem width_bd (s:ByteArray):0≤Qaq s∧Qaq s≤480:=by
 unfold Qaq;have h2:=QdY s.data.toList;have hl:s.data.toList.length=s.size:=by simp
 split
 ·omega
 ·split<;>omega
theorem tail_0 (w:World):(Instr.index 185 (.agg #[.string ⟨#[]⟩,.string ⟨#[69,105]⟩,.string ⟨#[105]⟩,.string ⟨#[116]⟩,.string ⟨#[97]⟩,.string ⟨#[69]⟩]) (.int .i64 0)).run Tryz.prog w=.ok (.string ⟨#[]⟩) w:=by kernel_rfl
theorem tail_1 (w:World):(Instr.index 185 (.agg #[.string ⟨#[]⟩,.string ⟨#[69,105]⟩,.string ⟨#[105]⟩,.string ⟨#[116]⟩,.string ⟨#[97]⟩,.string ⟨#[69]⟩]) (.int .i64 1)).run Tryz.prog w=.ok (.string ⟨#[69,105]⟩) w:=by kernel_rfl
theorem tail_2 (w:World):(Instr.index 185 (.agg #[.string ⟨#[]⟩,.string ⟨#[69,105]⟩,.string ⟨#[105]⟩,.string ⟨#[116]⟩,.string ⟨#[97]⟩,.string ⟨#[69]⟩]) (.int .i64 2)).run Tryz.prog w=.ok (.string ⟨#[105]⟩) w:=by kernel_rfl
theorem tail_3 (w:World):(Instr.index 185 (.agg #[.string ⟨#[]⟩,.string ⟨#[69,105]⟩,.string ⟨#[105]⟩,.string ⟨#[116]⟩,.string ⟨#[97]⟩,.string ⟨#[69]⟩]) (.int .i64 3)).run Tryz.prog w=.ok (.string ⟨#[116]⟩) w:=by kernel_rfl
theorem tail_4 (w:World):(Instr.index 185 (.agg #[.string ⟨#[]⟩,.string ⟨#[69,105]⟩,.string ⟨#[105]⟩,.string ⟨#[116]⟩,.string ⟨#[97]⟩,.string ⟨#[69]⟩]) (.int .i64 4)).run Tryz.prog w=.ok (.string ⟨#[97]⟩) w:=by kernel_rfl
theorem tail_5 (w:World):(Instr.index 185 (.agg #[.string ⟨#[]⟩,.string ⟨#[69,105]⟩,.string ⟨#[105]⟩,.string ⟨#[116]⟩,.string ⟨#[97]⟩,.string ⟨#[69]⟩]) (.int .i64 5)).run Tryz.prog w=.ok (.string ⟨#[69]⟩) w:=by kernel_rfl
theorem QcH {a b:ByteArray}{c d:Bool}(h:a=b)(k:c=d):Ending.returned (.tuple #[.string a,.bool c])=.returned (.tuple #[.string b,.bool d]):=by rw[h,k]
theorem QcU (a b:List UInt8):(⟨(a++b).toArray⟩:ByteArray)=⟨a.toArray⟩++⟨b.toArray⟩:=by
 apply ByteArray.ext;simp
theorem rep_list:∀c,Lib.repeatL [109] c=List.replicate c 109
 |0=>rfl
 |c+1=>by rw[Lib.repeatL,rep_list c,List.replicate_succ];rfl
theorem rep_m (z:Int)(c:Nat)(w:World)(hz:z=(c:Int))(hc:c≤100):
 Calls Tryz.prog 132 #[.string ⟨#[109]⟩,.int .i64 z] w fun e w'=>e=.returned (.string ⟨(List.replicate c 109).toArray⟩)∧Below w.heap.size w w':=by
 subst hz;have h1:(⟨#[109]⟩:ByteArray).size*c≤140737488355328:=by show 1*c≤_;omega
 refine(Tryz.strings_Repeat ⟨#[109]⟩ c w (by omega) h1).mono fun e w' ⟨he,hb⟩=>⟨?_,hb⟩
 rw[he];have:Lib.repeatL (⟨#[109]⟩:ByteArray).data.toList c=List.replicate c 109:=rep_list c;rw[this]
theorem gfill_any (n:Int)(hn:I64 n)(w:World):
 Calls Tryz.prog 83 #[.int .i64 n] w fun e w'=>e=.returned (.tuple #[.string (Qcd n),.bool (QbG n)])∧Below w.heap.size w w':=by
 by_cases h:4≤n∧n≤480∧n%2=0
 ·obtain⟨h1,h2,h3⟩:=h;obtain⟨m,rfl⟩:=Int.eq_ofNat_of_zero_le (show 0≤n by omega);have E:=Lh (fillS_yes (n:=m) (by omega) (by omega) (by omega)).1;have F:=Lh (fillS_yes (n:=m) (by omega) (by omega) (by omega)).2;have g1:¬(m:Int)<4:=(by omega);have g2:¬(480:Int)<(m:Int):=(by omega);have g3:(m:Int)%2=0:=(by omega);have g4:(0:Int)≤(m:Int):=(by omega);have g5:(m:Int)≤480:=(by omega);have hr:m%12=0∨m%12=2∨m%12=4∨m%12=6∨m%12=8∨m%12=10:=(by omega);clear h1 h2 h3;go_enter Tryz.func83,Tryz.ntmps83;rcases hr with hr|hr|hr|hr|hr|hr
  ·have e12:(m:Int)%12=0:=by omega
   have hI:=fun w=>tail_0 w
   have HT:=Lh (show Qbu m=(m/12)∧Qc8 (m%12)=[] from⟨by unfold Qbu;rw[hr];rfl,by rw[hr];rfl⟩);go_wp2_with fail;go_quiet (fail);go_wp2_with fail;refine(rep_m _ (m/12) _ (by omega) (by omega)).mono ?_;rintro e w1 ⟨rfl,hb⟩;have Hb:=Lh ((Below.dn (Below.refl w.heap.size w) _).trans hb);have hc:(m/12)≤100:=(by omega);clear hI hb;generalize (m/12)=c at*;have hc2:c≤9223372036854775807:=(by omega);go_wp2_with fail;go_ret2;exact⟨QcH (by rw[E.out,HT.out.1,HT.out.2];first|exact(QcU _ _).symm|(apply ByteArray.ext;simp;done)) F.out.symm,Hb.out⟩
  ·have e12:(m:Int)%12=2:=by omega
   have hI:=fun w=>tail_1 w
   have HT:=Lh (show Qbu m=(m/12-1)∧Qc8 (m%12)=[69,105] from⟨by unfold Qbu;rw[hr];rfl,by rw[hr];rfl⟩);go_wp2_with fail;go_quiet (fail);go_wp2_with fail;refine(rep_m _ (m/12-1) _ (by omega) (by omega)).mono ?_;rintro e w1 ⟨rfl,hb⟩;have Hb:=Lh ((Below.dn (Below.refl w.heap.size w) _).trans hb);have hc:(m/12-1)≤100:=(by omega);clear hI hb;generalize (m/12-1)=c at*;have hc2:c+2≤9223372036854775807:=(by omega);go_wp2_with fail;go_ret2;exact⟨QcH (by rw[E.out,HT.out.1,HT.out.2];first|exact(QcU _ _).symm|(apply ByteArray.ext;simp;done)) F.out.symm,Hb.out⟩
  ·have e12:(m:Int)%12=4:=by omega
   have hI:=fun w=>tail_2 w
   have HT:=Lh (show Qbu m=(m/12)∧Qc8 (m%12)=[105] from⟨by unfold Qbu;rw[hr];rfl,by rw[hr];rfl⟩);go_wp2_with fail;go_quiet (fail);go_wp2_with fail;refine(rep_m _ (m/12) _ (by omega) (by omega)).mono ?_;rintro e w1 ⟨rfl,hb⟩;have Hb:=Lh ((Below.dn (Below.refl w.heap.size w) _).trans hb);have hc:(m/12)≤100:=(by omega);clear hI hb;generalize (m/12)=c at*;have hc2:c+1≤9223372036854775807:=(by omega);go_wp2_with fail;go_ret2;exact⟨QcH (by rw[E.out,HT.out.1,HT.out.2];first|exact(QcU _ _).symm|(apply ByteArray.ext;simp;done)) F.out.symm,Hb.out⟩
  ·have e12:(m:Int)%12=6:=by omega
   have hI:=fun w=>tail_3 w
   have HT:=Lh (show Qbu m=(m/12)∧Qc8 (m%12)=[116] from⟨by unfold Qbu;rw[hr];rfl,by rw[hr];rfl⟩);go_wp2_with fail;go_quiet (fail);go_wp2_with fail;refine(rep_m _ (m/12) _ (by omega) (by omega)).mono ?_;rintro e w1 ⟨rfl,hb⟩;have Hb:=Lh ((Below.dn (Below.refl w.heap.size w) _).trans hb);have hc:(m/12)≤100:=(by omega);clear hI hb;generalize (m/12)=c at*;have hc2:c+1≤9223372036854775807:=(by omega);go_wp2_with fail;go_ret2;exact⟨QcH (by rw[E.out,HT.out.1,HT.out.2];first|exact(QcU _ _).symm|(apply ByteArray.ext;simp;done)) F.out.symm,Hb.out⟩
  ·have e12:(m:Int)%12=8:=by omega
   have hI:=fun w=>tail_4 w
   have HT:=Lh (show Qbu m=(m/12)∧Qc8 (m%12)=[97] from⟨by unfold Qbu;rw[hr];rfl,by rw[hr];rfl⟩);go_wp2_with fail;go_quiet (fail);go_wp2_with fail;refine(rep_m _ (m/12) _ (by omega) (by omega)).mono ?_;rintro e w1 ⟨rfl,hb⟩;have Hb:=Lh ((Below.dn (Below.refl w.heap.size w) _).trans hb);have hc:(m/12)≤100:=(by omega);clear hI hb;generalize (m/12)=c at*;have hc2:c+1≤9223372036854775807:=(by omega);go_wp2_with fail;go_ret2;exact⟨QcH (by rw[E.out,HT.out.1,HT.out.2];first|exact(QcU _ _).symm|(apply ByteArray.ext;simp;done)) F.out.symm,Hb.out⟩
  ·have e12:(m:Int)%12=10:=by omega
   have hI:=fun w=>tail_5 w
   have HT:=Lh (show Qbu m=(m/12)∧Qc8 (m%12)=[69] from⟨by unfold Qbu;rw[hr];rfl,by rw[hr];rfl⟩);go_wp2_with fail;go_quiet (fail);go_wp2_with fail;refine(rep_m _ (m/12) _ (by omega) (by omega)).mono ?_;rintro e w1 ⟨rfl,hb⟩;have Hb:=Lh ((Below.dn (Below.refl w.heap.size w) _).trans hb);have hc:(m/12)≤100:=(by omega);clear hI hb;generalize (m/12)=c at*;have hc2:c+1≤9223372036854775807:=(by omega);go_wp2_with fail;go_ret2;exact⟨QcH (by rw[E.out,HT.out.1,HT.out.2];first|exact(QcU _ _).symm|(apply ByteArray.ext;simp;done)) F.out.symm,Hb.out⟩
 ·have E:=Lh (fillS_no h).1;have F:=Lh (fillS_no h).2;have g4: -9223372036854775808≤n:=hn.1;have g5:n≤9223372036854775807:=hn.2;by_cases h1:n<4
  ·go_enter Tryz.func83,Tryz.ntmps83;go_wp2_with fail;go_ret2;exact⟨QcH E.out.symm F.out.symm,Below.refl _ _⟩
  ·by_cases h2:480<n
   ·go_enter Tryz.func83,Tryz.ntmps83;go_wp2_with fail;go_ret2;exact⟨QcH E.out.symm F.out.symm,Below.refl _ _⟩
   ·have h3:n%2=1:=by omega
    have h5:(0:Int)≤n:=(by omega);clear h;go_enter Tryz.func83,Tryz.ntmps83;go_wp2_with fail;go_ret2;exact⟨QcH E.out.symm F.out.symm,Below.refl _ _⟩
theorem Qdn (n:Int)(hn:I64 n)(w:World)(hT:Tabs w):
 Calls Tryz.prog 32 #[.int .i64 n] w fun e w'=>e=.returned (.string (box n))∧Below w.heap.size w w':=by
 have HT:=Lh hT;have hl:=itoa_len n hn;have HB:=Lh (show box n=⟨(91::(Lib.itoa n++[93])).toArray⟩ from rfl);clear hT;go_enter Tryz.func32,Tryz.ntmps32;go_wp2_with fail;refine(Tryz.strconv_Itoa n hn.1 hn.2 _ HT.out.2).mono ?_;rintro e w1 ⟨rfl,k,os,hw⟩;have Hb:=Lh (show Below w.heap.size w w1 by rw[hw];exact Lib.below_grow _ _ nL _ _);clear hw;generalize Lib.itoa n=l at*;have h1:1+l.length≤9223372036854775807:=by omega
 have h2:1+l.length+1≤9223372036854775807:=by omega
 clear hl;go_wp2_with fail;go_ret;exact⟨ret_str (by rw[HB.out];apply ByteArray.ext;simp),Hb.out⟩
theorem QbW (s:ByteArray):I64 (Qaq s):=by
 have:=width_bd s;unfold I64;omega
theorem show_any (A:Option Addr)(c n:Nat)(sl:List Seal)(gs e v x:Int)(s:ByteArray)(p1 p2:Addr)(b3:Nat)(w:World)(hsl:Sl w (fun b=>b<w.heap.size) A c sl)(hn:sl.length=n)(hsz:n≤1048576)(hg:∀s∈sl,0≤s.g∧s.g<16)(hT:Tabs w) (h1:w.cell? p1=some (.slice A n c)) (h2:w.cell? p2=some (.int .i64 gs)) (h3:w.cell? ⟨b3,2,none⟩=some (.int .i64 e)) (h4:w.cell? ⟨b3,3,none⟩=some (.int .i64 v)):
 Calls Tryz.prog 113 #[.int .i64 x,.string s,.pointer (some p1),.pointer (some p2),.pointer (some ⟨b3,0,none⟩)] w fun r w'=>r=.returned (.string (Qc1 sl gs e v x s))∧Below w.heap.size w w':=by
 have HM:=may_any A c n sl gs e v x w hsl hn hsz hg;have HT:=Lh hT;obtain⟨q,hq⟩:∃q,may (gset (sl.filter (onP e v x))) gs=q:=⟨_,rfl⟩;have HS:Hid (Qc1 sl gs e v x s=if q=true then s else box (Qaq s)):=Lh (by unfold Qc1 seeB;rw[hq]);rw[hq] at HM;have HM:=Lh HM;clear hT hsl hn hsz hg hq;go_enter Tryz.func113,Tryz.ntmps113;cases q
 ·go_wp2_with (first|(go_at_call 30;refine HM.out.mono ?_;rintro r w1 ⟨rfl,hb⟩;have HB:=Lh hb;clear hb h1 h2 h3 h4)|(go_at_call 33;refine(Qbq s _ (HT.out.to HB.out).1).mono ?_;rintro r w2 ⟨rfl,rfl⟩)|(go_at_call 32;refine(Qdn (Qaq s) (QbW s) _ (HT.out.to HB.out)).mono ?_;rintro r w3 ⟨rfl,hb⟩;have HB3:=Lh (HB.out.trans (hb.mono HB.out.size));clear hb)|fail)
  go_ret;exact⟨ret_str (by rw[HS.out];rfl),HB3.out⟩
 ·go_wp2_with (first|(go_at_call 30;refine HM.out.mono ?_;rintro r w1 ⟨rfl,hb⟩;have HB:=Lh hb;clear hb h1 h2 h3 h4)|fail)
  go_ret;exact⟨ret_str (by rw[HS.out];rfl),HB.out⟩
theorem wp_make0 {P:Program}{o:Oper}{a:Act}{w:World}{K:Act→World→Prop}{Q:Exit→Act→World→Prop}(t:TypeId)(x y:Operand)(ho:o.op=.makeSlice t x y)(e:TypeId)(z:Value)(size bytes:Nat) (ht:P.underlying t=some (.slice e)) (hinfo:(P.info? e).map (fun i=>(i.zero,i.size,i.bytes))=some (some z,size,bytes)) (n:Nat) (hx:a.eval x=.int .i64 0) (hy:a.eval y=.int .i64 (n:Int)) (hb:n*bytes≤140737488355328) (h63:n≤9223372036854775807) (h:K (a.put o.dst (.slice (some ⟨w.heap.size,0,none⟩) 0 n)) (w.alloc (.cells (madeCells z.cells (n*size)) e))):o.wp P a w K Q:=by
 obtain⟨i,hi,hz,hsz,hbz⟩:=info_parts hinfo;have hb':(i.bytes:Int)*(n:Int)≤281474976710656:=by
  rw[hbz];have h:((bytes*n:Nat):Int)≤281474976710656:=(by rw[Nat.mul_comm];omega);rwa [Int.natCast_mul] at h
 have hr:=run_make (P:=P) w t e i z ht hi hz .i64 .i64 0 n (by omega) (by omega) hb' (by omega);simp only[Int.toNat_natCast,hsz] at hr;unfold Oper.wp execOp;simp only[ho,hx,hy,Sem.run_bind,hr,Result.andThen_ok,Sem.run_pure];exact h
theorem wpList_make0 {P:Program}{ops:Array Oper}{rest:List Oper}{o:Oper}{a:Act}{w:World}{Q:Exit→Act→World→Prop}(hgd:o.guard=none)(t:TypeId)(x y:Operand)(ho:o.op=.makeSlice t x y)(e:TypeId)(z:Value)(size bytes:Nat) (ht:P.underlying t=some (.slice e)) (hinfo:(P.info? e).map (fun i=>(i.zero,i.size,i.bytes))=some (some z,size,bytes)) (n:Nat) (hx:a.eval x=.int .i64 0) (hy:a.eval y=.int .i64 (n:Int)) (hb:n*bytes≤140737488355328) (h63:n≤9223372036854775807) (h:wpList P ops Q rest (a.put o.dst (.slice (some ⟨w.heap.size,0,none⟩) 0 n)) (w.alloc (.cells (madeCells z.cells (n*size)) e))):wpList P ops Q (o::rest) a w:=
 wpList_plain hgd fun _ hK=>wp_make0 t x y ho e z size bytes ht hinfo n hx hy hb h63 (hK _ _ h)
theorem own_made0 {α:Type}[Rep α](w:World)(base n:Nat)(e:TypeId)(z:Value)(hb:base≤w.heap.size)(hn:n≤maxLen):Own (α:=α) (w.alloc (.cells (madeCells z.cells (n*Rep.size α)) e)) base e (.slice (some ⟨w.heap.size,0,none⟩) 0 n) []:=by
 refine⟨[],⟨by simp,.inr ⟨w.heap.size,_,_,rfl,hb,heap_alloc_new w _,by simp,hn,?_,by simp⟩⟩,by simp,fun i h=>absurd h (by simp)⟩;unfold madeCells;simp
theorem QdJ {w:World}{base:Nat}{e:TypeId}{v:Value}{l:List ByteArray}(h:Own w base e v l):∃A c,v=.slice A l.length c∧Sl w (fun b=>base≤b) A c l:=by
 obtain⟨A,c,e1,h1,-⟩:=h.form;obtain⟨A',c',e2,hs⟩:=h.sl;rw[e1] at e2;cases e2;refine⟨A,c,e1,hs.1,hs.2.1,fun hn=>?_⟩;obtain⟨b,o,hA,-,hlt,hx⟩:=hs.2.2 hn;exact⟨b,o,hA,(h1 _ hA).1,hlt,fun i hi=>hx i hi⟩
def Qax (sl:List Seal)(gs e v:Int)(ws:List Word)(f j:Nat):List ByteArray:=(List.range (j-f)).map fun(i:Nat)=>Qc1 sl gs e v ((f:Int)+(i:Int)) (ws.getD (f+i) noW).s
theorem lineTo_succ {sl:List Seal}{gs e v:Int}{ws:List Word}{f j:Nat}(h:f≤j)(hj:j<ws.length):Qax sl gs e v ws f (j+1)=Qax sl gs e v ws f j++[Qc1 sl gs e v (j:Int) ws[j].s]:=by
 unfold Qax;rw[show j+1-f=(j-f)+1 by omega,List.range_succ,List.map_append];simp only[List.map_cons,List.map_nil];rw[show(f:Int)+((j-f:Nat):Int)=(j:Int) by omega,show f+(j-f)=j by omega,List.getD_eq_getElem?_getD,qG hj];rfl
theorem QcX {sl:List Seal}{gs e v:Int}{ws:List Word}{f j:Nat}:(Qax sl gs e v ws f j).length=j-f:=by unfold Qax;simp
theorem lineW_to (sl:List Seal)(gs e v:Int)(ws:List Word)(f u:Nat)(ga no:List Int):lineW sl gs e v ws ⟨f,u,ga,no⟩=Qax sl gs e v ws f u:=by
 unfold lineW Qax;rw[show((u:Int)-(f:Int)).toNat=u-f by omega];rfl
theorem show_size (sl:List Seal)(gs e v x:Int)(s:ByteArray)(hs:s.size≤1000):(Qc1 sl gs e v x s).size≤1000:=by
 unfold Qc1;split
 ·exact hs
 ·have:=itoa_len (Qaq s) (QbW s);unfold box;show(91::(Lib.itoa (Qaq s)++[93])).toArray.size≤1000;simp;omega
theorem QdK {sl:List Seal}{gs e v:Int}{ws:List Word}(hws:∀y∈ws,y.s.size≤1000){f j:Nat}(hj:j≤ws.length):∀z∈Qax sl gs e v ws f j,z.size≤1000:=by
 unfold Qax;intro z hz;obtain⟨i,hi,rfl⟩:=List.mem_map.1 hz;rw[List.mem_range] at hi;refine show_size _ _ _ _ _ _ ?_;rw[List.getD_eq_getElem?_getD,qG (by omega),Option.getD_some];exact hws _ (List.getElem_mem _)
theorem join_len (q:List UInt8)(hq:q.length=1):∀(l:List (List UInt8)),(∀z∈l,z.length≤1000)→(Lib.join l q).length≤1001*l.length
 |[],_=>by simp[Lib.join]
 |[x],h=>by
  have:=h x (by simp);rw[Lib.join_one];simp;omega
 |x::y::r,h=>by
  have h1:=h x (by simp);have h2:=join_len q hq (y::r) (fun z hz=>h z (by simp[hz]));rw[show Lib.join (x::y::r) q=x++q++Lib.join (y::r) q by simp[Lib.join]];rw[qA,qA,hq];simp only[qC] at h2 ⊢;omega
set_option maxRecDepth 100000 in
theorem set_line (Aw:Option Addr)(cw nw:Nat)(ws:List Word)(A:Option Addr)(c n:Nat)(sl:List Seal)(gs e v:Int)(f u:Nat)(Ag An:Option Addr)(ng cg nn cn:Nat)(p1 p2:Addr)(b3:Nat)(w:World) (hws:Sl w (fun b=>b<w.heap.size) Aw cw ws) (hwn:ws.length=nw) (hw6:nw≤1048576) (hw1:∀y∈ws,y.s.size≤1000) (hsl:Sl w (fun b=>b<w.heap.size) A c sl) (hn:sl.length=n) (hsz:n≤1048576) (hg:∀s∈sl,0≤s.g∧s.g<16) (hT:Tabs w) (h1:w.cell? p1=some (.slice A n c)) (h2:w.cell? p2=some (.int .i64 gs)) (h3:w.cell? ⟨b3,2,none⟩=some (.int .i64 e)) (h4:w.cell? ⟨b3,3,none⟩=some (.int .i64 v)) (hfu:f<u) (hu:u≤nw):
 Calls Tryz.prog 60 #[.agg #[.slice Aw nw cw,.func (.func 113) #[] #[.pointer (some p1),.pointer (some p2),.pointer (some ⟨b3,0,none⟩)]],.agg #[.int .i64 f,.int .i64 u,.slice Ag ng cg,.slice An nn cn]] w fun r w'=>r=.returned (.string (Qbg (Qax sl gs e v ws f u)))∧Below w.heap.size w w':=by
 obtain⟨wb,hwb⟩:∃wb,(w.alloc (.cells #[.slice Aw nw cw,.func (.func 113) #[] #[.pointer (some p1),.pointer (some p2),.pointer (some ⟨b3,0,none⟩)]] 113)).alloc (.cells #[.int .i64 f,.int .i64 u,.slice Ag ng cg,.slice An nn cn] 56)=wb:=⟨_,rfl⟩;have hba:Below w.heap.size w wb:=by rw[←hwb];exact(bR.alloc nL _).alloc (by simp) _
 have hx0:ABox wb w.heap.size 113 [.slice Aw nw cw,.func (.func 113) #[] #[.pointer (some p1),.pointer (some p2),.pointer (some ⟨b3,0,none⟩)]]:=by rw[←hwb];exact(Below.heap_alloc _ _ _ (by simp)).trans (heap_alloc_new w _)
 have hx1:ABox wb (w.heap.size+1) 56 [.int .i64 f,.int .i64 u,.slice Ag ng cg,.slice An nn cn]:=by rw[←hwb];exact Qak (by simp)
 have HWS:=Lh (hws.to hba);have HWN:=Lh hwn;have HW1:=Lh hw1;have HBA:=Lh hba;have HX0:=Lh hx0;have HX1:=Lh hx1;have hb1:=World.block_lt_of_cell? w p1 h1;have hb2:=World.block_lt_of_cell? w p2 h2;have hb3:=World.block_lt_of_cell? w _ h3
 have HSH:Hid (∀(W:World) (x:Int) (s:ByteArray),Below wb.heap.size wb W→Calls Tryz.prog 113 #[.int .i64 x,.string s,.pointer (some p1),.pointer (some p2),.pointer (some ⟨b3,0,none⟩)] W fun r w'=>r=.returned (.string (Qc1 sl gs e v x s))∧Below W.heap.size W w'):=Lh fun W x s hW=>
  have hh:Below w.heap.size w W:=hba.trans (hW.mono hba.size)
  show_any A c n sl gs e v x s p1 p2 b3 W (hsl.to hh) hn hsz hg (hT.to hh) ((hh.cell (p:=p1) hb1).trans h1) ((hh.cell (p:=p2) hb2).trans h2) ((hh.cell (p:=⟨b3,2,none⟩) hb3).trans h3) ((hh.cell (p:=⟨b3,3,none⟩) hb3).trans h4)
 have hfI:(f:Int)≤(u:Int):=by omega
 have hd:(u:Int)-(f:Int)=((u-f:Nat):Int):=by omega
 have HD:Hid (u-f≤1048576):=Lh (by omega);have hd2:u-f≤1048576:=HD.out;have hfn:f≤1048576:=by omega
 have hun:u≤1048576:=by omega
 have HUN:=Lh hu;have HFU:Hid (f≤u):=Lh (Nat.le_of_lt hfu);have HFS:=Lh hfu;clear hws hwn hw1 hsl hn hsz hg hT h1 h2 h3 h4 hb1 hb2 hb3 hba hx0 hx1 hu;go_enter Tryz.func60,Tryz.ntmps60;go_upto_region 1 with(fail);(try rw[hwb]);clear hwb;have y0:=HX1.out.cell 0 rfl;have y1:=HX1.out.cell 1 rfl
 go_upto_region 2 with(first|(refine wpList_make0 rfl 44 (.const (.int .i64 0)) (.tmp 11) rfl 9 (.string ⟨#[]⟩) 1 16 Tryz.underlying44 Qdr (u-f) rfl (by first|rfl|(rw[←hd];rfl)) (by omega) (by omega) ?_)|fail)
 obtain⟨wm,hwm⟩:∃wm,wb.alloc (.cells (madeCells #[.string ⟨#[]⟩] (u-f)) 9)=wm:=⟨_,rfl⟩;have HO:Hid (Own wm wb.heap.size 9 (.slice (some ⟨wb.heap.size,0,none⟩) 0 (u-f)) ([]:List ByteArray)):=Lh (by rw[←hwm];have h:=own_made0 (α:=ByteArray) wb wb.heap.size (u-f) 9 (.string ⟨#[]⟩) nL (by have:=HD.out;unfold maxLen;omega);rw[show(u-f)*Rep.size ByteArray=u-f from Nat.mul_one _] at h;exact h);have HBM:Hid (Below wb.heap.size wb wm):=Lh (by rw[←hwm];exact bR.alloc nL _);rw[hwm];clear hwm y0 y1;have y0:=(HX1.out.to HBM.out).cell 0 rfl;go_wp2_with fail;go_loopw [5,6] (fun v5 v6 wr=>∃j:Nat,v6=.int .i64 (j:Int)∧f≤j∧j≤u∧Hid (Own wr wb.heap.size 9 v5 (Qax sl gs e v ws f j))∧Hid (Below wb.heap.size wb wr)) (fun _ v6 _=>u-(intOf v6).toNat);(case atStart=>exact⟨f,rfl,Nat.le_refl _,HFU.out,Lh (by unfold Qax;rw[Nat.sub_self];exact HO.out),HBM⟩);case round=>
  clear HO HBM y0;obtain⟨j,rfl,hfj,hju,HO,HB⟩:=hrel;have y1:=(HX1.out.to HB.out).cell 1 rfl;by_cases hlt:j<u
  ·have hjI:(j:Int)<(u:Int):=by omega
   have hjw:j<ws.length:=(by rw[HWN.out];have:=HUN.out;omega);obtain⟨bw,ow,rfl,-,hbw,-,k0,-,-,-⟩:=Qct HWS.out hjw;obtain⟨z,hz⟩:∃z,Qc1 sl gs e v (j:Int) ws[j].s=z:=⟨_,rfl⟩;obtain⟨s0,hs0⟩:∃s0,ws[j].s=s0:=⟨_,rfl⟩;have HSU:=Lh (lineTo_succ (sl:=sl) (gs:=gs) (e:=e) (v:=v) hfj hjw);rw[hz] at HSU;rw[hs0] at hz k0;have HZ:=Lh hz;obtain⟨L,hL⟩:∃L,Qax sl gs e v ws f j=L:=⟨_,rfl⟩;have HLL:=Lh hL;have hLn:L.length=j-f:=(by rw[←hL];exact QcX);rw[hL] at HO HSU;have HLN:Hid (L.length≤1048576):=Lh (by have:=HD.out;omega);have HZS:Hid (z.size≤1000):=Lh (by rw[←hz,←hs0];exact show_size _ _ _ _ _ _ (HW1.out _ (List.getElem_mem hjw)));obtain⟨A5,c5,rfl,-⟩:=HO.out.form;clear hz hs0 hL hLn;go_upto_region 5 with(fail);refine Qaf [10,11] (fun i=>if i=10 then SP.val (.string z) else if i=11 then SP.own wr.heap.size 9 [z] else SP.any) 12 (by kernel_rfl) (by kernel_rfl) ?_;intro T _ g hg hgm;have x0:∀d,(g d).cell? ⟨w.heap.size,0,none⟩=some (.slice (some ⟨bw,ow,none⟩) nw cw):=fun d=>((HX0.out.to HB.out).to (hg d)).cell 0 rfl
   have x1:∀d,(g d).cell? ⟨w.heap.size,1,none⟩=some (.func (.func 113) #[] #[.pointer (some p1),.pointer (some p2),.pointer (some ⟨b3,0,none⟩)]):=fun d=>((HX0.out.to HB.out).to (hg d)).cell 1 rfl
   have a0:∀d,(g d).cell? ⟨bw,ow+j*4,none⟩=some (.string s0):=fun d=>((HB.out.trans ((hg d).mono HB.out.size)).cell (p:=⟨bw,ow+j*4,none⟩) hbw).trans k0
   have hjn:(j:Int)<(nw:Int):=(by have:=HUN.out;omega);(repeat(refine Qac (by rfl) fun Kq hq=>?_;go_big_quiet_step (fail);refine wpQuiet_nil (hq _ ?_);clear hq Kq));refine Qah (by rfl) (by rfl) (fun d hG K Q hK=>?_) (fun v9 d hG hp Kr hr=>?_)
   ·go_simp;go_at_call 113;refine(HSH.out (g d) (j:Int) s0 (HB.out.trans ((hg d).mono HB.out.size))).mono ?_;rintro r V1 ⟨rfl,hb1⟩;go_simp;exact hK _ _ hb1 (by show Value.string _=Value.string _;rw[HZ.out])
   have hp:v9=.string z:=hp;subst hp;(try clear hp);clear hG;go_frame;refine hr _ ?_;clear hr Kr;(repeat(refine Qac (by rfl) fun Kq hq=>?_;go_big_quiet_step (fail);refine wpQuiet_nil (hq _ ?_);clear hq Kq));refine Qah (by rfl) (by rfl) (fun d hG K Q hK=>?_) (fun v9 d hG hp Kr hr=>?_)
   ·go_simp;refine hK _ _ (bR.alloc nL _) (show Own _ _ _ _ _ from ?_);refine Own.lit (α:=ByteArray) (g d) wr.heap.size 9 #[.string z] [z] (hg d).size (by simp[maxLen]) rfl (by intro u hu;simp at hu;rcases hu with rfl;rfl) (fun i hi=>?_);obtain rfl:i=0:=by simp at hi;exact hi
    exact⟨rfl,by have:=HZS.out;unfold maxLen;show z.size≤_;omega⟩
   obtain⟨A9,c9,rfl,-⟩:=(show Own (g d) wr.heap.size 9 v9 [z] from hp).form;(try clear hp);clear hG;go_frame;refine hr _ ?_;clear hr Kr;(repeat(refine Qac (by rfl) fun Kq hq=>?_;go_big_quiet_step (fail);refine wpQuiet_nil (hq _ ?_);clear hq Kq));refine QaP 2 (by rfl) (by rfl) (fun d hG=>?_);have H9:Hid (Own (g d) wr.heap.size 9 (.slice A9 1 c9) [z]):=Lh (hG 11);have HOd:=Lh (HO.out.below (hg d));have HBd:=Lh (HB.out.trans ((hg d).mono HB.out.size));have HSZ:Hid (wr.heap.size≤(g d).heap.size):=Lh (hg d).size;have HLT:=Lh HO.out.lt;clear hG hg hgm x0 x1 a0;generalize g d=wx at*;clear g
   have HS9:Hid (Sl wx (fun b=>wr.heap.size≤b) A9 c9 [z]):=Lh (by
    obtain⟨A,c,e,hs⟩:=QdJ H9.out
    cases e
    exact hs)
   refine Qao (i:=12) (oi:=_) rfl (by kernel_rfl) (by rfl) (fun K hK=>?_);refine wp_cat (α:=ByteArray) _ (.tmp 21) (.tmp 32) 44 rfl wb.heap.size 9 (.string ⟨#[]⟩) 16 Tryz.underlying44 Qdr rfl (show 0<1 by decide) _ L rfl HOd.out A9 c9 1 [z] rfl rfl (fun b=>wr.heap.size≤b) HS9.out (fun i (hi:wr.heap.size≤i) _ e=>by have:=(HLT.out i e.symm).2;omega) (by have:=HLN.out;omega) (by have:=HLN.out;omega) (by have:=HBd.out.size;omega) ?_;intro v' w' ho' hg' hv';have HON:Hid (Own w' wb.heap.size 9 v' (Qax sl gs e v ws f (j+1))):=Lh (by rw[HSU.out];exact ho');have HBN:Hid (Below wb.heap.size wb w'):=Lh (HBd.out.grown hg' HBd.out.size (fun j hj=>(HLT.out j hj).1));refine hK _ _ ?_;clear hK K ho' hg' hv' HOd HS9 H9;(try simp only[Act.put,sA0]);refine Qao (i:=13) (oi:=_) rfl (by kernel_rfl) (by rfl) (fun K hK=>?_);go_simp;refine hK _ _ ?_;clear hK K;(try go_frame);refine wpAny_done (by kernel_rfl) ?_ _;unfold Exit.then;go_wp2_with fail;go_roundw;(case rel=>exact⟨j+1,by go_num,by omega,by omega,HON,HBN⟩);case measure=>(first|(simp[intOf];done)|(simp[intOf];omega))
  ·obtain rfl:j=u:=by omega
   have hjI:¬(j:Int)<(j:Int):=(by omega);obtain⟨L,hL⟩:∃L,Qax sl gs e v ws f j=L:=⟨_,rfl⟩;have HLL:=Lh hL;have hLn:L.length=j-f:=(by rw[←hL];exact QcX);have hLs:∀z∈L,z.size≤1000:=(by rw[←hL];exact QdK HW1.out (by rw[HWN.out];exact HUN.out));rw[hL] at HO;have HLN0:Hid (L.length≤1048576):=Lh (by have:=HD.out;omega)
   have HJN:Hid (Calls Tryz.prog 115 #[u5,.string ⟨#[32]⟩] wr fun e w'=>e=.returned (.string (Qbg L))∧Below wr.heap.size wr w'):=Lh (by
    obtain⟨A5,c5,rfl,hs5⟩:=HO.out.sl
    have hlen:(Lib.join (L.map (·.data.toList)) [32]).length≤140737488355328:=by
     have:=join_len [32] rfl (L.map (·.data.toList)) (fun q hq=>by
      obtain⟨z,hz,rfl⟩:=List.mem_map.1 hq
      have:=hLs z hz
      simpa using this)
     rw[qM] at this
     have:=HD.out
     omega
    cases L with
    |nil=>exact absurd hLn (by have:=HFS.out;simp;omega)
    |cons z0 L0=>
     obtain⟨b5,o5,hA5,-,hb5,hx5⟩:=hs5.2.2 (by simp)
     subst hA5
     exact Tryz.strings_Join b5 o5 c5 (z0::L0) ⟨#[32]⟩ wr (fun i y hy=>by
      obtain⟨hi,hy2⟩:=List.getElem?_eq_some_iff.1 hy
      obtain⟨es,⟨he,-⟩,hc⟩:=hx5 i hi
      have:=hc 0 (.string (z0::L0)[i]) (by rw[he];rfl)
      rw[hy2] at this
      simpa[Rep.size] using this) hb5 (by have:=HLN0.out;omega) hs5.1 hlen)
   clear hL hLn hLs
   go_wp2_with (first|(go_at_call 115;refine HJN.out.mono ?_;rintro r w2 ⟨rfl,hb⟩;have HB2:=Lh (HB.out.trans (hb.mono HB.out.size));clear hb)|fail)
   go_ret;exact⟨by rw[HLL.out];rfl,HBA.out.trans (HB2.out.mono HBA.out.size)⟩
end Go.Proofs.YtegaapiocihcpaaGreatDoor
namespace Go.Proofs.YtegaapiocihcpaaGreatDoor
open Go.Shelf
def QdV:Go.Shelf.Ren:=⟨fun|4=>168|n=>n,fun|22=>110|25=>66|3=>3|4=>4|9=>9|20=>20 |0=>0|n=>n,fun|n=>n⟩
theorem growV:Go.Proofs.Lays8.n4 Tryz.prog QdV:={
 mixed:=by kernel_rfl
 f4:=⟨Tryz.f168.name,by decide,Tryz.func168.trans (congrArg some (by kernel_rfl))⟩
 t0:=Tryz.underlying0
 a0:=Tryz.isAgg0
 z0:=Tryz.sizeOf0
 v0:=Tryz.zeroValue0
 t3:=Tryz.underlying3
 a3:=Tryz.isAgg3
 z3:=Tryz.sizeOf3
 v3:=Tryz.zeroValue3
 t4:=Tryz.underlying4
 a4:=Tryz.isAgg4
 z4:=Tryz.sizeOf4
 v4:=Tryz.zeroValue4
 t9:=Tryz.underlying9
 a9:=Tryz.isAgg9
 z9:=Tryz.sizeOf9
 v9:=Tryz.zeroValue9
 t20:=Tryz.underlying20
 a20:=Tryz.isAgg20
 z20:=Tryz.sizeOf20
 v20:=Tryz.zeroValue20
 t22:=Tryz.underlying110
 a22:=Tryz.isAgg110
 z22:=Tryz.sizeOf110
 v22:=Tryz.zeroValue110}
end Go.Proofs.YtegaapiocihcpaaGreatDoor
namespace Go.Proofs.YtegaapiocihcpaaGreatDoor
open Go.RowKit Go.Shelf
theorem grow_nilV (n:Nat)(w:World)(hn:n≤4194304):
 Calls Tryz.prog 168 #[.slice none 0 0,.int .i64 (n:Int)] w fun e w'=>∃v,e=.returned v∧Own w' w.heap.size 66 v ([]:List Word)∧Below w.heap.size w w':=by
 by_cases h0:n=0
 ·subst h0;exact(Any8.slices_Grow_room growV none 0 0 0 w (by omega) (by omega) (by omega) (by omega)).mono fun e w' ⟨he,hw⟩=>⟨_,he,Own.nil _ _ _,by rw[hw];exact Below.refl _ _⟩
 ·obtain⟨i,hi,hz,hz1,hz2⟩:=info_parts word_infoW;have h1:=grownCap_ge w (0+n) 0 (QdV.t 25);have h2:=grownCap_le_maxLen w (0+n) 0 (QdV.t 25) (by unfold maxLen;omega);refine(Any8.slices_Grow_grow growV i (.agg #[.string ⟨#[]⟩,.string ⟨#[]⟩,.int .i64 0,.int .i64 0]) hi hz (by rw[hz1];decide) none 0 0 n [] w (by omega) (by omega) (by rw[hz2];omega) (by omega) (by simp) (fun _=>rfl) (fun a h=>by cases h)).mono ?_;rintro e w' ⟨he,rfl⟩;refine⟨_,he,⟨[],⟨by simp,.inr ⟨w.heap.size,_,_,rfl,Nat.le_refl _,heap_alloc_new w.drew _,by simp,h2,?_,by simp⟩⟩,by simp,fun i h=>absurd h (by simp)⟩,?_⟩
  ·have e:(Value.agg #[.string ⟨#[]⟩,.string ⟨#[]⟩,.int .i64 0,.int .i64 0]).cells.size=4:=rfl;simp only[Array.size_append,size_zeroCells,e];show 0+(0+n-0)*4+(_-(0+n))*4=_*4;omega
  ·exact(bR.drew).alloc nL _
theorem QcG (ll:List (List Word)){k:Nat}(hk:k<ll.length):tot (ll.take (k+1))=tot (ll.take k)+ll[k].length:=by
 rw[qT hk,QaZ];unfold tot;simp
theorem Qcp (ll:List (List Word))(k:Nat):tot (ll.take k)≤tot ll:=by
 have h:tot ll=tot (ll.take k)+tot (ll.drop k):=by rw[←QaZ,List.take_append_drop]
 omega
theorem flat_take_succ (ll:List (List Word)){k:Nat}(hk:k<ll.length):(ll.take (k+1)).flatten=(ll.take k).flatten++ll[k]:=by
 rw[qT hk,List.flatten_append];simp only[List.flatten_cons,List.flatten_nil,List.append_nil]
theorem flat_tot (ll:List (List Word)):ll.flatten.length=tot ll:=by
 unfold tot;simp[List.length_flatten]
theorem concatV_any (A:Option Addr)(c n:Nat)(ll:List (List Word))(w:World)(hl:Sl w (fun b=>b<w.heap.size) A c ll)(hn:ll.length=n)(hsz:n≤1048576)(ht:tot ll≤1048576):
 Calls Tryz.prog 116 #[.slice A n c] w fun e w'=>∃v,e=.returned v∧Own w' w.heap.size 66 v ll.flatten∧Below w.heap.size w w':=by
 have HL:=Lh hl;have HN:=Lh hn;have HT:=Lh ht;have hnc:n≤c:=by rw[←hn];exact hl.1
 have hcm:c≤9223372036854775807:=hl.2.1;clear hl hn;go_enter Tryz.func116,Tryz.ntmps116;go_wp2_with fail;go_loop [3,5,11] (fun s _ i=>∃k:Nat,k≤n∧i=.int .i64 k∧s=.int .i64 ((tot (ll.take k):Nat):Int)) (fun _ _ i=>n-(intOf i).toNat);(case atStart=>exact⟨0,Nat.zero_le _,rfl,rfl⟩);case round=>
  obtain⟨k,hk,rfl,rfl⟩:=hrel;by_cases hlt:k<n
  ·have hkl:k<ll.length:=by rw[HN.out];exact hlt
   obtain⟨b,o,es,rfl,-,-,⟨A1,c1,rfl,-,hlen⟩,hc⟩:=HL.out.at_ hkl;have h0:=hc 0 _ rfl;have hz:o+k*Rep.size (List Word)+0=o+k:=(by simp[Rep.size]);rw[hz] at h0;have hs:=QcG ll hkl;have hle:=Qcp ll (k+1);have HT1:=HT.out;have HS:=Lh hs;obtain⟨s,hsv⟩:∃s,tot (ll.take k)=s:=⟨_,rfl⟩;obtain⟨q,hqv⟩:∃q,ll[k].length=q:=⟨_,rfl⟩;rw[hsv,hqv] at hs HS;rw[hqv] at h0;rw[hsv];have hkI:(k:Int)<(n:Int):=(by omega);have hq:q≤1048576:=(by omega);have hs2:s≤1048576:=(by omega);have hneg:¬(s:Int)+(q:Int)<0:=(by omega);clear hc hz hs hle HT1 hsv hqv hlen;go_wp2_with fail;go_round;(case rel=>exact⟨k+1,by omega,by go_num,by rw[HS.out];go_num⟩);case measure=>simp[intOf];omega
  ·obtain rfl:k=n:=by omega
   have e:ll.take k=ll:=List.take_of_length_le (by rw[HN.out];exact Nat.le_refl _);rw[e];obtain⟨s,hsv⟩:∃s,tot ll=s:=⟨_,rfl⟩;have HSV:=Lh hsv;rw[hsv] at HT ⊢;have HT1:=HT.out;have hkI:¬(k:Int)<(k:Int):=(by omega);have HG:=Lh (grow_nilV s w (by omega));clear e hsv
   go_wp2_with (first|(go_at_call 168;refine HG.out.mono ?_;rintro e wG ⟨v,rfl,ho,hb⟩;have HO:=Lh ho;have HB:=Lh hb;clear ho hb)|fail)
   go_loopw [6,8,27] (fun v _ i wr=>∃j:Nat,j≤k∧i=.int .i64 j∧Hid (Own wr w.heap.size 66 v (ll.take j).flatten)∧Hid (Below w.heap.size w wr)) (fun _ _ i _=>k-(intOf i).toNat);(case atStart=>exact⟨0,Nat.zero_le _,rfl,HO,HB⟩);case round=>
    clear HO HB;obtain⟨j,hj,rfl,HO,HB⟩:=hrel;by_cases hjl:j<k
    ·have hkl:j<ll.length:=by rw[HN.out];exact hjl
     obtain⟨b,o,es,rfl,-,hbl,⟨A1,c1,rfl,hw,hlen⟩,hc⟩:=HL.out.at_ hkl;have h0:=hc 0 _ rfl;have hz:o+j*Rep.size (List Word)+0=o+j:=(by simp[Rep.size]);rw[hz] at h0;have h1:=(HB.out.cell (p:=⟨b,o+j,none⟩) hbl).trans h0;have HF:=Lh (flat_take_succ ll hkl);have hle:=Qcp ll j;have hle2:=Qcp ll (j+1);have hs:=QcG ll hkl;obtain⟨q,hqv⟩:∃q,ll[j].length=q:=⟨_,rfl⟩;obtain⟨L,hL⟩:∃L,(ll.take j).flatten=L:=⟨_,rfl⟩;have hLl:L.length=tot (ll.take j):=(by rw[←hL];exact flat_tot _);rw[hL] at HO;have HLL:=Lh hL;rw[hqv] at h1 hs;have hb1:(L.length+q)*48≤140737488355328:=(by have:=HT.out;have:=HSV.out;omega);have hb2:L.length+q≤9223372036854775807:=(by omega);have HB1:=Lh hb1;have HB2:=Lh hb2;have HQ:=Lh hqv;have HW:=Lh (hw.mono (S':=fun b=>b<w.heap.size) (fun i hi _=>hi));obtain⟨A2,c2,rfl,-⟩:=HO.out.form;have hjI:(j:Int)<(k:Int):=(by omega);have hz3:=HB.out.size;clear hc hz h0 hle hle2 hs hL hqv hw hlen hb1 hb2 hLl
     go_wp2_with (first|(at_builtin;refine QaH (α:=Word) _ rfl (.tmp 31) (.tmp 32) 110 rfl w.heap.size 66 (.agg #[.string ⟨#[]⟩,.string ⟨#[]⟩,.int .i64 0,.int .i64 0]) 48 Tryz.underlying110 word_infoW rfl (by decide) _ L rfl HO.out A1 c1 q ll[j] rfl HQ.out (fun b=>b<w.heap.size) (HW.out.keep (Kept.below HB.out (fun i h=>h)) HB.out.size) (by intro i (hi:i<w.heap.size) _ e;have:=(HO.out.lt i e.symm).1;omega) HB1.out HB2.out hz3 ?_;intro v2 w2 hown2 hg2 hat2;have HON:=Lh hown2;have HBN:=Lh (Qa3 HB.out HO.out hz3 hg2);clear hown2 hg2 hat2)|fail)
     go_roundw;(case rel=>exact⟨j+1,by omega,by go_num,by rw[HF.out,HLL.out];exact HON,HBN⟩);case measure=>simp[intOf];omega
    ·obtain rfl:j=k:=by omega
     have hjI:¬(j:Int)<(j:Int):=(by omega);go_wp2_with fail;go_ret;exact⟨_,rfl,by have:=HO.out;rwa [List.take_of_length_le (by rw[HN.out];exact Nat.le_refl _)] at this,HB.out⟩
end Go.Proofs.YtegaapiocihcpaaGreatDoor
namespace Go.Proofs.YtegaapiocihcpaaGreatDoor
open Go.RowKit
set_option maxRecDepth 100000 in
theorem vwords_any (Aa Ab:Option Addr)(ca cb:Nat)(a b:List (List Word))(w:World)(ha:Sl w (fun b=>b<w.heap.size) Aa ca a)(hb:Sl w (fun b=>b<w.heap.size) Ab cb b)(hla:a.length≤100)(hlb:b.length≤100)(ht:tot (a++b)≤1048576):
 Calls Tryz.prog 62 #[.agg #[.slice Aa a.length ca,.slice Ab b.length cb]] w fun e W'=>∃v,e=.returned v∧Own W' w.heap.size 66 v (QaF ⟨a,b⟩)∧Below w.heap.size w W':=by
 obtain⟨wb,hwb⟩:∃wb,w.alloc (.cells #[.slice Aa a.length ca,.slice Ab b.length cb] 36)=wb:=⟨_,rfl⟩;have hba:Below w.heap.size w wb:=by rw[←hwb];exact bR.alloc nL _
 have hx0:ABox wb w.heap.size 36 [.slice Aa a.length ca,.slice Ab b.length cb]:=by rw[←hwb];exact heap_alloc_new w _
 have HA:=Lh (ha.to hba);have HB:=Lh (hb.to hba);have HBA:=Lh hba;have HX0:=Lh hx0;have HT:=Lh ht;have HLA:=Lh hla;have HLB:=Lh hlb;clear ha hb hba hx0 ht hla hlb;go_enter Tryz.func62,Tryz.ntmps62;go_upto_region 1 with(fail);(try rw[hwb]);clear hwb;have y0:=HX0.out.cell 0 rfl;have y1:=HX0.out.cell 1 rfl;have HX2:Hid (ABox (wb.alloc (.cells #[.slice Aa a.length ca,.slice Ab b.length cb] 34)) wb.heap.size 34 [.slice Aa a.length ca,.slice Ab b.length cb]):=Lh (heap_alloc_new wb _);have HB2:Hid (Below wb.heap.size wb (wb.alloc (.cells #[.slice Aa a.length ca,.slice Ab b.length cb] 34))):=Lh (bR.alloc nL _)
 go_wp2_with (first|(go_at_call 74;refine(QcR wb.heap.size Aa Ab ca cb a b _ (HX2.out.cell 0 rfl) (HX2.out.cell 1 rfl) (HA.out.to HB2.out) (HB.out.to HB2.out) (by have:=HLA.out;omega) (by have:=HLB.out;omega)).mono ?_;rintro e w1 ⟨v1,rfl,ho1,hb1⟩;obtain⟨A1,c1,rfl,hs1⟩:=ho1.sl;have HS1:=Lh hs1;have HB3:=Lh (HB2.out.trans (hb1.mono HB2.out.size));clear ho1 hs1 hb1 y0 y1)|(go_at_call 116;refine(concatV_any A1 c1 (a.length+b.length) (a++b) _ HS1.out qA (by have:=HLA.out;have:=HLB.out;omega) HT.out).mono ?_;rintro e w2 ⟨v2,rfl,ho2,hb2⟩;have HO2:=Lh ho2;have HB4:=Lh (HB3.out.trans (hb2.mono HB3.out.size));have HZ3:=Lh HB3.out.size;clear ho2 hb2)|fail)
 go_ret;exact⟨_,rfl,HO2.out.re (Nat.le_trans HBA.out.size HZ3.out),HBA.out.trans (HB4.out.mono HBA.out.size)⟩
theorem own_slW {w:World}{base:Nat}{e:TypeId}{v:Value}{l:List Word}(h:Own w base e v l):∃A c,v=.slice A l.length c∧Sl w (fun b=>base≤b) A c l:=by
 obtain⟨A,c,e1,h1,-⟩:=h.form;obtain⟨A',c',e2,hs⟩:=h.sl;rw[e1] at e2;cases e2;refine⟨A,c,e1,hs.1,hs.2.1,fun hn=>?_⟩;obtain⟨b,o,hA,-,hlt,hx⟩:=hs.2.2 hn;exact⟨b,o,hA,(h1 _ hA).1,hlt,fun i hi=>hx i hi⟩
def SetOf (Aw:Option Addr)(cw nw:Nat)(c1 c2 c3:Value)(sl:List Seal)(gs e v:Int)(ws:List Word)(W':World):Prop:=
 ∀W,Below W'.heap.size W' W→∀(f u:Nat) (Ag An:Option Addr) (ng cg nn cn:Nat),f<u→u≤nw→Calls Tryz.prog 60 #[.agg #[.slice Aw nw cw,.func (.func 113) #[] #[c1,c2,c3]],.agg #[.int .i64 f,.int .i64 u,.slice Ag ng cg,.slice An nn cn]] W fun r w'=>r=.returned (.string (Qbg (Qax sl gs e v ws f u)))∧Below W.heap.size W w'
theorem SetOf.to {Aw:Option Addr}{cw nw:Nat}{c1 c2 c3:Value}{sl:List Seal}{gs e v:Int}{ws:List Word}{W W':World}(H:SetOf Aw cw nw c1 c2 c3 sl gs e v ws W)(hb:Below W.heap.size W W'):SetOf Aw cw nw c1 c2 c3 sl gs e v ws W':=fun V hV=>H V (hb.trans (hV.mono hb.size))
set_option maxRecDepth 100000 in
theorem made_any (num suf e v:Int)(Ap Aq:Option Addr)(np cp nq cq:Nat)(Aa Ab:Option Addr)(ca cb:Nat)(a b:List (List Word))(A:Option Addr)(c n:Nat)(sl:List Seal)(gs:Int)(w:World) (ha:Sl w (fun b=>b<w.heap.size) Aa ca a) (hb:Sl w (fun b=>b<w.heap.size) Ab cb b) (hla:a.length≤100) (hlb:b.length≤100) (ht:tot (a++b)≤1048576) (hw1:∀y∈QaF ⟨a,b⟩,y.s.size≤1000) (hsl:Sl w (fun b=>b<w.heap.size) A c sl) (hn:sl.length=n) (hsz:n≤1048576) (hg:∀s∈sl,0≤s.g∧s.g<16) (hT:Tabs w):
 Calls Tryz.prog 58 #[.agg #[.int .i64 num,.int .i64 suf,.int .i64 e,.int .i64 v,.slice Ap np cp,.slice Aq nq cq],.agg #[.slice Aa a.length ca,.slice Ab b.length cb],.slice A n c,.int .i64 gs] w fun r W'=>∃Aw cw c1 c2 c3,r=.returned (.agg #[.slice Aw (tot (a++b)) cw,.func (.func 113) #[] #[c1,c2,c3]])∧SetOf Aw cw (tot (a++b)) c1 c2 c3 sl gs e v (QaF ⟨a,b⟩) W'∧Below w.heap.size w W':=by
 obtain⟨wb,hwb⟩:∃wb,((((w.alloc (.cells #[.int .i64 num,.int .i64 suf,.int .i64 e,.int .i64 v,.slice Ap np cp,.slice Aq nq cq] 43)).alloc (.cells #[.slice Aa a.length ca,.slice Ab b.length cb] 36)).alloc (.cells #[.slice A n c] 26)).alloc (.cells #[.int .i64 gs] 3)).alloc (.cells #[.slice none 0 0,.nilFunc] 113)=wb:=⟨_,rfl⟩;have hba:Below w.heap.size w wb:=by rw[←hwb];exact((((bR.alloc nL _).alloc (by simp) _).alloc (by simp;omega) _).alloc (by simp;omega) _).alloc (by simp;omega) _
 have hx0:ABox wb w.heap.size 43 [.int .i64 num,.int .i64 suf,.int .i64 e,.int .i64 v,.slice Ap np cp,.slice Aq nq cq]:=by rw[←hwb];exact(Below.heap_alloc _ _ _ (by first|(simp;done)|(simp;omega))).trans ((Below.heap_alloc _ _ _ (by first|(simp;done)|(simp;omega))).trans ((Below.heap_alloc _ _ _ (by first|(simp;done)|(simp;omega))).trans ((Below.heap_alloc _ _ _ (by simp)).trans (heap_alloc_new w _))))
 have hx1:ABox wb (w.heap.size+1) 36 [.slice Aa a.length ca,.slice Ab b.length cb]:=by rw[←hwb];exact(Below.heap_alloc _ _ _ (by first|(simp;done)|(simp;omega))).trans ((Below.heap_alloc _ _ _ (by first|(simp;done)|(simp;omega))).trans ((Below.heap_alloc _ _ _ (by simp)).trans (Qak (by simp))))
 have hx2:ABox wb (w.heap.size+1+1) 26 [.slice A n c]:=by rw[←hwb];exact(Below.heap_alloc _ _ _ (by first|(simp;done)|(simp;omega))).trans ((Below.heap_alloc _ _ _ (by simp)).trans (Qak (by simp)))
 have hx3:ABox wb (w.heap.size+1+1+1) 3 [.int .i64 gs]:=by rw[←hwb];exact(Below.heap_alloc _ _ _ (by simp)).trans (Qak (by simp))
 have hx4:ABox wb (w.heap.size+1+1+1+1) 113 [.slice none 0 0,.nilFunc]:=by rw[←hwb];exact Qak (by simp)
 have HW:=Lh (vwords_any Aa Ab ca cb a b wb (ha.to hba) (hb.to hba) hla hlb ht);have HSLW:=Lh hsl;have HTW:=Lh hT;have HW1:=Lh hw1;have HG:=Lh hg;have HN:=Lh hn;have HSZ:=Lh hsz;have HTT:=Lh ht;have HBA:=Lh hba;have HX0:=Lh hx0;have HX1:=Lh hx1;have HX2:=Lh hx2;have HX3:=Lh hx3;have HX4:=Lh hx4;clear ha hb hla hlb ht hw1 hsl hn hsz hg hT hba hx0 hx1 hx2 hx3 hx4;go_enter Tryz.func58,Tryz.ntmps58;go_upto_region 1 with(fail);(try rw[hwb]);clear hwb;have y0:=HX1.out.cell 0 rfl;have y1:=HX1.out.cell 1 rfl
 go_wp2_with (first|(go_at_call 62;refine HW.out.mono ?_;rintro r w1 ⟨v1,rfl,ho,hb1⟩;obtain⟨Aw,cw,rfl,hs1⟩:=own_slW ho;rw[show(QaF ⟨a,b⟩).length=tot (a++b) from Qdl _];have HS1:=Lh hs1;have HB1:=Lh hb1;have HX41:=Lh (HX4.out.to hb1);clear ho hs1 hb1 y0 y1;have z0:=HX41.out.cell 0 rfl;have z1:=HX41.out.cell 1 rfl;have f0:=HX41.out.fz 0;have f1:=HX41.out.fz 1)|fail)
 obtain⟨WF,hWF⟩:∃WF,(w1.setCell ⟨w.heap.size+1+1+1+1,0,none⟩ (.slice Aw (tot (a++b)) cw)).setCell ⟨w.heap.size+1+1+1+1,1,none⟩ (.func (.func 113) #[] #[.pointer (some ⟨w.heap.size+1+1,0,none⟩),.pointer (some ⟨w.heap.size+1+1+1,0,none⟩),.pointer (some ⟨w.heap.size,0,none⟩)])=WF:=⟨_,rfl⟩;have hxf:ABox WF (w.heap.size+1+1+1+1) 113 [.slice Aw (tot (a++b)) cw,.func (.func 113) #[] #[.pointer (some ⟨w.heap.size+1+1,0,none⟩),.pointer (some ⟨w.heap.size+1+1+1,0,none⟩),.pointer (some ⟨w.heap.size,0,none⟩)]]:=by rw[←hWF];exact(HX41.out.set 0 (.slice Aw (tot (a++b)) cw)).set 1 (.func (.func 113) #[] #[.pointer (some ⟨w.heap.size+1+1,0,none⟩),.pointer (some ⟨w.heap.size+1+1+1,0,none⟩),.pointer (some ⟨w.heap.size,0,none⟩)])
 have hoth:∀i,i≠w.heap.size+1+1+1+1→WF.heap[i]? =w1.heap[i]? :=fun i hi=>by rw[←hWF];rw[Qaa _ _ _ _ hi,Qaa _ _ _ _ hi]
 have hzf:WF.heap.size=w1.heap.size:=by rw[←hWF];simp
 have hbf:Below w.heap.size w WF:=by rw[←hWF];exact((HBA.out.trans (HB1.out.mono HBA.out.size)).setCell (p:=⟨w.heap.size+1+1+1+1,0,none⟩) (by show w.heap.size≤w.heap.size+1+1+1+1;omega) _).setCell (p:=⟨w.heap.size+1+1+1+1,1,none⟩) (by show w.heap.size≤w.heap.size+1+1+1+1;omega) _
 rw[hWF];have hcl:∀(i q:Nat),i≠w.heap.size+1+1+1+1→WF.cell? ⟨i,q,none⟩=w1.cell? ⟨i,q,none⟩:=fun i q hi=>by unfold World.cell?;rw[hoth i hi]
 have hX0:=HX0.out.to HB1.out;have hX2:=HX2.out.to HB1.out;have hX3:=HX3.out.to HB1.out;have g0:=(hcl (w.heap.size+1+1) 0 (by omega)).trans (hX2.cell 0 rfl);have g1:=(hcl (w.heap.size+1+1+1) 0 (by omega)).trans (hX3.cell 0 rfl);have g2:=(hcl w.heap.size 2 (by omega)).trans (hX0.cell 2 rfl);have g3:=(hcl w.heap.size 3 (by omega)).trans (hX0.cell 3 rfl);have l0:=World.block_lt_of_cell? WF _ g0;have l1:=World.block_lt_of_cell? WF _ g1;have l2:=World.block_lt_of_cell? WF _ g2;have hsw:Sl WF (fun b=>b<WF.heap.size) Aw cw (QaF ⟨a,b⟩):=(HS1.out.keep (fun i (hi:wb.heap.size≤i) _=>hoth i (by have:=HX4.out.lt;omega)) (by omega)).mono (fun i _ hl=>hl);have hsl2:Sl WF (fun b=>b<WF.heap.size) A c sl:=(HSLW.out.to hbf);have hT2:Tabs WF:=HTW.out.to hbf;refine bodyPost_ret (v:=.agg #[.slice Aw (tot (a++b)) cw,.func (.func 113) #[] #[.pointer (some ⟨w.heap.size+1+1,0,none⟩),.pointer (some ⟨w.heap.size+1+1+1,0,none⟩),.pointer (some ⟨w.heap.size,0,none⟩)]]) (QaN Tryz.results58 _ _ (w.heap.size+1+1+1+1) _ [.slice Aw (tot (a++b)) cw,.func (.func 113) #[] #[.pointer (some ⟨w.heap.size+1+1,0,none⟩),.pointer (some ⟨w.heap.size+1+1+1,0,none⟩),.pointer (some ⟨w.heap.size,0,none⟩)]] _ rfl hxf Tryz.underlying113 rfl (by kernel_rfl)) rfl ⟨Aw,cw,_,_,_,rfl,?_,hbf⟩;intro W hW f u Ag An ng cg nn cn hfu hu;exact set_line Aw cw (tot (a++b)) (QaF ⟨a,b⟩) A c n sl gs e v f u Ag An ng cg nn cn ⟨w.heap.size+1+1,0,none⟩ ⟨w.heap.size+1+1+1,0,none⟩ w.heap.size W (hsw.to hW) (Qdl _) HTT.out HW1.out (hsl2.to hW) HN.out HSZ.out HG.out (hT2.to hW) ((hW.cell (p:=⟨w.heap.size+1+1,0,none⟩) l0).trans g0) ((hW.cell (p:=⟨w.heap.size+1+1+1,0,none⟩) l1).trans g1) ((hW.cell (p:=⟨w.heap.size,2,none⟩) l2).trans g2) ((hW.cell (p:=⟨w.heap.size,3,none⟩) l2).trans g3) hfu hu
def SP.setter (nw:Nat)(sl:List Seal)(gs e v:Int)(ws:List Word):SP:=⟨fun x W=>∃Aw cw c1 c2 c3,x=.agg #[.slice Aw nw cw,.func (.func 113) #[] #[c1,c2,c3]]∧SetOf Aw cw nw c1 c2 c3 sl gs e v ws W,fun _ _ _ h hb=>by
 obtain⟨Aw,cw,c1,c2,c3,h1,h2⟩:=h
 exact⟨Aw,cw,c1,c2,c3,h1,h2.to hb⟩⟩
set_option maxRecDepth 100000 in
theorem QdP (num suf e v:Int)(Ap Aq:Option Addr)(np cp nq cq:Nat)(f u:Nat)(Ag An:Option Addr)(ng cg nn cn:Nat)(Aa Ab:Option Addr)(ca cb:Nat)(a b:List (List Word))(A:Option Addr)(c n:Nat)(sl:List Seal)(gs:Int)(w:World) (ha:Sl w (fun b=>b<w.heap.size) Aa ca a) (hb:Sl w (fun b=>b<w.heap.size) Ab cb b) (hla:a.length≤100) (hlb:b.length≤100) (ht:tot (a++b)≤1048576) (hw1:∀y∈QaF ⟨a,b⟩,y.s.size≤1000) (hsl:Sl w (fun b=>b<w.heap.size) A c sl) (hn:sl.length=n) (hsz:n≤1048576) (hg:∀s∈sl,0≤s.g∧s.g<16) (hT:Tabs w) (hfu:f<u) (hu:u≤tot (a++b)):
 Calls Tryz.prog 24 #[.agg #[.int .i64 num,.int .i64 suf,.int .i64 e,.int .i64 v,.slice Ap np cp,.slice Aq nq cq],.agg #[.int .i64 f,.int .i64 u,.slice Ag ng cg,.slice An nn cn],.agg #[.slice Aa a.length ca,.slice Ab b.length cb],.slice A n c,.int .i64 gs] w fun r W'=>r=.returned (.string (Qbg (Qax sl gs e v (QaF ⟨a,b⟩) f u)))∧Below w.heap.size w W':=by
 obtain⟨wb,hwb⟩:∃wb,((w.alloc (.cells #[.int .i64 num,.int .i64 suf,.int .i64 e,.int .i64 v,.slice Ap np cp,.slice Aq nq cq] 43)).alloc (.cells #[.int .i64 f,.int .i64 u,.slice Ag ng cg,.slice An nn cn] 56)).alloc (.cells #[.slice Aa a.length ca,.slice Ab b.length cb] 36)=wb:=⟨_,rfl⟩;have hba:Below w.heap.size w wb:=by rw[←hwb];exact((bR.alloc nL _).alloc (by simp) _).alloc (by simp;omega) _
 have hx0:ABox wb w.heap.size 43 [.int .i64 num,.int .i64 suf,.int .i64 e,.int .i64 v,.slice Ap np cp,.slice Aq nq cq]:=by rw[←hwb];exact(Below.heap_alloc _ _ _ (by first|(simp;done)|(simp;omega))).trans ((Below.heap_alloc _ _ _ (by simp)).trans (heap_alloc_new w _))
 have hx1:ABox wb (w.heap.size+1) 56 [.int .i64 f,.int .i64 u,.slice Ag ng cg,.slice An nn cn]:=by rw[←hwb];exact(Below.heap_alloc _ _ _ (by simp)).trans (Qak (by simp))
 have hx2:ABox wb (w.heap.size+1+1) 36 [.slice Aa a.length ca,.slice Ab b.length cb]:=by rw[←hwb];exact Qak (by simp)
 have HM:=Lh (fun(W:World) (hW:Below wb.heap.size wb W)=>have hh:Below w.heap.size w W:=hba.trans (hW.mono hba.size);made_any num suf e v Ap Aq np cp nq cq Aa Ab ca cb a b A c n sl gs W (ha.to hh) (hb.to hh) hla hlb ht hw1 (hsl.to hh) hn hsz hg (hT.to hh));have HBA:=Lh hba;have HX1:=Lh hx1;have HX0:=Lh hx0;have HX2:=Lh hx2;have HFU:=Lh hfu;have HU:=Lh hu;clear ha hb hla hlb ht hw1 hsl hn hsz hg hT hba hx0 hx1 hx2 hfu hu;go_enter Tryz.func24,Tryz.ntmps24;go_upto_region 1 with(fail);(try rw[hwb]);clear hwb;refine Qaf [4,6] (fun i=>if i=4 then SP.setter (tot (a++b)) sl gs e v (QaF ⟨a,b⟩) else if i=6 then SP.val (.string (Qbg (Qax sl gs e v (QaF ⟨a,b⟩) f u))) else SP.any) 8 (by kernel_rfl) (by kernel_rfl) ?_;intro T _ g hg hgm;have y0:∀d,(g d).cell? ⟨w.heap.size,0,none⟩=some (.int .i64 num):=fun d=>(HX0.out.to (hg d)).cell 0 rfl
 have y1:∀d,(g d).cell? ⟨w.heap.size,1,none⟩=some (.int .i64 suf):=fun d=>(HX0.out.to (hg d)).cell 1 rfl
 have y2:∀d,(g d).cell? ⟨w.heap.size,2,none⟩=some (.int .i64 e):=fun d=>(HX0.out.to (hg d)).cell 2 rfl
 have y3:∀d,(g d).cell? ⟨w.heap.size,3,none⟩=some (.int .i64 v):=fun d=>(HX0.out.to (hg d)).cell 3 rfl
 have y4:∀d,(g d).cell? ⟨w.heap.size,4,none⟩=some (.slice Ap np cp):=fun d=>(HX0.out.to (hg d)).cell 4 rfl
 have y5:∀d,(g d).cell? ⟨w.heap.size,5,none⟩=some (.slice Aq nq cq):=fun d=>(HX0.out.to (hg d)).cell 5 rfl
 have l0:∀d,(g d).cell? ⟨w.heap.size+1,0,none⟩=some (.int .i64 f):=fun d=>(HX1.out.to (hg d)).cell 0 rfl
 have l1:∀d,(g d).cell? ⟨w.heap.size+1,1,none⟩=some (.int .i64 u):=fun d=>(HX1.out.to (hg d)).cell 1 rfl
 have l2:∀d,(g d).cell? ⟨w.heap.size+1,2,none⟩=some (.slice Ag ng cg):=fun d=>(HX1.out.to (hg d)).cell 2 rfl
 have l3:∀d,(g d).cell? ⟨w.heap.size+1,3,none⟩=some (.slice An nn cn):=fun d=>(HX1.out.to (hg d)).cell 3 rfl
 have z0:∀d,(g d).cell? ⟨w.heap.size+1+1,0,none⟩=some (.slice Aa a.length ca):=fun d=>(HX2.out.to (hg d)).cell 0 rfl
 have z1:∀d,(g d).cell? ⟨w.heap.size+1+1,1,none⟩=some (.slice Ab b.length cb):=fun d=>(HX2.out.to (hg d)).cell 1 rfl
 (repeat(refine Qac (by rfl) fun Kq hq=>?_;go_big_quiet_step (fail);refine wpQuiet_nil (hq _ ?_);clear hq Kq));refine Qah (by rfl) (by rfl) (fun d hG K Q hK=>?_) (fun v9 d hG hp Kr hr=>?_)
 ·go_simp;go_at_call 58;refine(HM.out (g d) (hg d)).mono ?_;rintro r w1 ⟨Aw,cw,c1,c2,c3,rfl,hs,hb1⟩;go_simp;exact hK _ _ hb1 (show(SP.setter _ _ _ _ _ _).p _ _ from⟨Aw,cw,c1,c2,c3,rfl,hs⟩)
 obtain⟨Aw,cw,c1,c2,c3,rfl,hs⟩:=(show(SP.setter (tot (a++b)) sl gs e v (QaF ⟨a,b⟩)).p v9 _ from hp);clear hs;(try clear hp);clear hG;go_frame;refine hr _ ?_;clear hr Kr;(repeat(refine Qac (by rfl) fun Kq hq=>?_;go_big_quiet_step (fail);refine wpQuiet_nil (hq _ ?_);clear hq Kq));refine Qah (by rfl) (by rfl) (fun d hG K Q hK=>?_) (fun v9 d hG hp Kr hr=>?_)
 ·obtain⟨Aw',cw',c1',c2',c3',he,hs⟩:=(show(SP.setter (tot (a++b)) sl gs e v (QaF ⟨a,b⟩)).p _ _ from hG 4 (by kernel_rfl));cases he;go_simp;go_at_call 60;refine(hs (g d) bR f u Ag An ng cg nn cn HFU.out HU.out).mono ?_;rintro r w2 ⟨rfl,hb2⟩;go_simp;exact hK _ _ hb2 rfl
 have hp:v9=.string (Qbg (Qax sl gs e v (QaF ⟨a,b⟩) f u)):=hp;subst hp;(try clear hp);clear hG;go_frame;refine hr _ ?_;clear hr Kr;(repeat(refine Qac (by rfl) fun Kq hq=>?_;go_big_quiet_step (fail);refine wpQuiet_nil (hq _ ?_);clear hq Kq));refine QcZ (by kernel_rfl) (fun d hG=>?_) _;have HBd:=Lh (hg d);clear hG hg hgm y0 y1 y2 y3 y4 y5 l0 l1 l2 l3 z0 z1;unfold Exit.then;generalize g d=w6 at*;clear g;go_wp2_with fail;go_ret;exact⟨rfl,HBA.out.trans (HBd.out.mono HBA.out.size)⟩
theorem QcD (sep x:List UInt8):∀r,Lib.joinTail sep (r++[x])=Lib.joinTail sep r++(sep++x)
 |[]=>by simp[Lib.joinTail]
 |y::r=>by
  have:=QcD sep x r;simp only[Lib.joinTail,List.cons_append] at this ⊢;simp[this,List.append_assoc]
theorem joinS_one (x:ByteArray):Qbg [x]=x:=by
 unfold Qbg;rw[List.map_cons,List.map_nil,Lib.join_one]
theorem joinS_snoc (l:List ByteArray)(h:l≠[])(x:ByteArray):Qbg (l++[x])=Qbg l++⟨#[32]⟩++x:=by
 cases l with
 |nil=>exact absurd rfl h
 |cons y r=>
  unfold Qbg;apply ByteArray.ext;apply Array.ext';rw[List.cons_append,List.map_cons,List.map_append,Lib.join_cons,List.map_cons,List.map_nil,QcD,List.map_cons,Lib.join_cons];simp[List.append_assoc]
theorem joinS_size:∀(L:List ByteArray),(∀z∈L,z.size≤1000)→(Qbg L).size≤1001*L.length:=fun L h=>by
 have:=join_len [32] rfl (L.map (·.data.toList)) (fun q hq=>by
  obtain⟨z,hz,rfl⟩:=List.mem_map.1 hq
  have:=h z hz
  simpa using this)
 rw[qM] at this;unfold Qbg;show((Lib.join (L.map (·.data.toList)) [32]).toArray).size≤_;simpa using this
end Go.Proofs.YtegaapiocihcpaaGreatDoor
