/- Texts of SpC. -/
import Derived.Test.YtegaapiocihcpaaDoorSDa5
import Derived.Deep.RegionLaw
import Derived.Shelf.RegionOpenPlain
import Derived.Lib.SliceRun
import Derived.LoopIn
import Derived.Sort.CutIn
set_option maxHeartbeats 16000000
namespace Go.Proofs.YtegaapiocihcpaaDoor
open Go.RowKit
def Qac (a b:List (List Word))(m h:Int):List PageP:=if textE a b m h=0 then Qar a b m h.toNat else[]
def QaN (m h entry:Int):Nat→Int→Int→List Int→List TextP→List PageP
 |_,_,_,_,[]=>[]
 |k,num,suf,vs,t::ts=>QaD entry (vs.headD 0) num suf k (Qac t.a t.b m h)++ QaN m h entry (k+1) (if k=0 then num+(Qac t.a t.b m h).length else num) (if k=0 then suf else suf+(Qac t.a t.b m h).length) vs.tail ts
def QaC (m h:Int)(s:SectP):Nat:=match s.texts with
 |[]=>0
 |t::_=>(Qac t.a t.b m h).length
def Qas (m h:Int):Int→List SectP→List PageP
 |_,[]=>[]
 |num,s::ss=>QaN m h s.entry 0 num 0 s.vers s.texts++Qas m h (num+QaC m h s) ss
def Qaf (m h:Int)(l:List SectP):List PageP:=Qas m h 0 l
theorem Qdk (a b:List (List Word))(m h:Int):(Qac a b m h).length≤100000:=by
 unfold Qac;split
 ·rename_i hE;obtain⟨hf,⟨h1,h2⟩,hp⟩:=QbM hE;have e1:=Qbv (Qah a b m) h.toNat (Qag (QaA a m) (Qah a b m)) (QaA a m) [];have e2:=Qcf hp;have e3:=Qb6 hf h1 h2;unfold Qar;omega
 ·exact Nat.zero_le _
theorem Qcq (entry ver:Int):∀(ps:List PageP) (num suf:Int) (k:Nat),(QaD entry ver num suf k ps).length=ps.length
 |[],_,_,_=>by simp[QaD]
 |p::ps,num,suf,k=>by rw[QaD,qC,qC,Qcq]
theorem versB_len (m h entry:Int):∀(ts:List TextP) (k:Nat) (num suf:Int) (vs:List Int),(QaN m h entry k num suf vs ts).length≤100000*ts.length
 |[],_,_,_,_=>by simp[QaN]
 |t::ts,k,num,suf,vs=>by
  rw[QaN,qA,Qcq,qC];have h1:=Qdk t.a t.b m h;have h2:=versB_len m h entry ts (k+1) (if k=0 then num+(Qac t.a t.b m h).length else num) (if k=0 then suf else suf+(Qac t.a t.b m h).length) vs.tail;omega
theorem sectsB_len (m h:Int):∀(l:List SectP) (num:Int),(∀s∈l,s.texts.length≤1048576)→(Qas m h num l).length≤104857600000*l.length
 |[],_,_=>by simp[Qas]
 |s::l,num,hs=>by
  rw[Qas,qA,qC];have h1:=versB_len m h s.entry s.texts 0 num 0 s.vers;have h2:=sectsB_len m h l (num+QaC m h s) (fun x hx=>hs x (by simp[hx]));have h3:=hs s (by simp);omega
theorem pagesB_len {m h:Int}{l:List SectP}(hs:Qdx l):(Qaf m h l).length≤109951162777600000:=by
 have:=sectsB_len m h l 0 (fun s h=>(hs.2 s h).2.1);have:=hs.1;unfold Qaf;omega
theorem Qbu (entry ver num suf:Int)(k:Nat)(p:PageP)(ps:List PageP):QaD entry ver num suf k (p::ps)= {p with num:=if k=0 then num+1 else num,suf:=if k=0 then suf else suf+1,entry:=entry,ver:=ver}::QaD entry ver (if k=0 then num+1 else num) (if k=0 then suf else suf+1) k ps:=by rw[QaD]
structure PV where
 num:Int
 suf:Int
 entry:Int
 ver:Int
 body:List LineP
 notes:List LineP
 Aa:Option Addr
 ca:Nat
 Ab:Option Addr
 cb:Nat
def PV.plain (x:PV):PageP:=⟨x.num,x.suf,x.entry,x.ver,x.body,x.notes⟩
def PV.enc (x:PV):Array Value:=#[.agg #[.int .i64 x.num,.int .i64 x.suf,.int .i64 x.entry,.int .i64 x.ver,(.slice x.Aa x.body.length x.ca),(.slice x.Ab x.notes.length x.cb)]]
def SmallP (p:PageP):Prop:=p.body.length≤1048576∧p.notes.length≤1048576
theorem QbV (notes:List (List LineP))(h N:Nat):∀(f:Nat) (body queue:List LineP),body.length≤N→queue.length+(body.flatMap (Qaa notes)).length≤N→∀p∈setPages notes h f body queue,p.body.length≤N∧p.notes.length≤N
 |0,_,_,_,_=>by simp[setPages]
 |f+1,body,queue,h1,h2=>by
  obtain⟨k,a,b,c,d,e⟩:=QaW notes h body 0 (min queue.length (h-1)) queue (Nat.min_le_left _ _);intro p hp;rw[setPages] at hp;split at hp
  ·simp at hp
  ·have hs:(body.flatMap (Qaa notes)).length=((body.take k).flatMap (Qaa notes)).length+((body.drop k).flatMap (Qaa notes)).length:=by
    rw[←qA,←List.flatMap_append,List.take_append_drop]
   have hq:(fillP notes h body 0 (min queue.length (h-1)) queue).2.2.length=queue.length+((body.take k).flatMap (Qaa notes)).length:=(by rw[d,qA]);rcases List.mem_cons.1 hp with rfl|hp
   ·refine⟨?_,?_⟩
    ·show(body.take _).length≤N;rw[qK];omega
    ·show((fillP notes h body 0 (min queue.length (h-1)) queue).2.2.take _).length≤N;rw[qK];omega
   ·refine QbV notes h N f _ _ ?_ ?_ p hp
    ·rw[List.length_drop];omega
    ·rw[List.length_drop,b,Nat.zero_add];omega
theorem Qcj (a b:List (List Word))(m h:Int):∀p∈Qac a b m h,SmallP p:=by
 unfold Qac;split
 ·rename_i hE;obtain⟨hf,⟨h1,h2⟩,hp⟩:=QbM hE;have e2:=Qcf hp;have e3:=Qb6 hf h1 h2;have e4:=Qb7 (Qah a b m) (QaA a m);intro p hp;have:=QbV (Qah a b m) h.toNat 100000 _ (QaA a m) [] (by omega) (by simp only[List.length_nil];omega) p hp;exact⟨by omega,by omega⟩
 ·intro p hp;simp at hp
def PV.Pr (PM:Nat→Prop)(x:PV)(W:World):Prop:=Rep.R W PM [.slice x.Aa x.body.length x.ca] x.body∧Rep.R W PM [.slice x.Ab x.notes.length x.cb] x.notes∧SmallP x.plain
theorem PV.pr_keep (PM:Nat→Prop)(x:PV)(A B:World)(h:PV.Pr PM x A)(k:KS PM A B):PV.Pr PM x B:=⟨Rep.keep h.1 k.kept,Rep.keep h.2.1 k.kept,h.2.2⟩
theorem PV.pr_mono (PM PM':Nat→Prop)(x:PV)(A:World)(h:PV.Pr PM x A)(k:∀i,PM i→i<A.heap.size→PM' i):PV.Pr PM' x A:=⟨Rep.mono h.1 k,Rep.mono h.2.1 k,h.2.2⟩
abbrev JT:=List PV→(Nat→Prop)→(Nat→Prop)→World→Prop
structure AI (n₀ Lab:Nat)(w0:World)(J:JT)(num suf:Int)(pre:List PV)(M R:Nat→Prop)(W:World):Prop where
 j:J pre M R W
 old:KS (fun i=>i<n₀) w0 W
 lab:ABox W Lab 45 [.int .i64 num,.int .i64 suf]
 l1:w0.heap.size≤Lab
 lM:¬M Lab
 lR:¬R Lab
 mM:∀i,M i→i<W.heap.size
 mR:∀i,R i→i<W.heap.size
section
variable {n₀ Lab:Nat} {w0 W W':World} {J:JT} {num suf:Int} {pre:List PV} {M R:Nat→Prop}
theorem AI.to (h:AI n₀ Lab w0 J num suf pre M R W)(hJ:∀pre M R A B,J pre M R A→KS (fun i=>i<w0.heap.size∨R i) A B→J pre M R B)(hb:Below W.heap.size W W'):AI n₀ Lab w0 J num suf pre M R W':=
 ⟨hJ _ _ _ _ _ h.j (KS.of_below hb _),h.old.trans (KS.of_below hb _),h.lab.to hb,h.l1,h.lM,h.lR,fun i hi=>Nat.lt_of_lt_of_le (h.mM i hi) hb.size,fun i hi=>Nat.lt_of_lt_of_le (h.mR i hi) hb.size⟩
theorem AI.setNum (h:AI n₀ Lab w0 J num suf pre M R W)(hJ:∀pre M R A B,J pre M R A→KS (fun i=>i<w0.heap.size∨R i) A B→J pre M R B)(hn:n₀≤w0.heap.size)(v:Int):AI n₀ Lab w0 J v suf pre M R (W.setCell ⟨Lab,0,none⟩ (.int .i64 v)):=
 ⟨hJ _ _ _ _ _ h.j (KS.setCell _ _ (fun(e:Lab<w0.heap.size∨R Lab)=>e.elim (fun e=>by have:=h.l1;omega) h.lR)),h.old.trans (KS.setCell _ _ (fun(e:Lab<n₀)=>by have:=h.l1;omega)),by have:=h.lab.set 0 (.int .i64 v);simpa using this,h.l1,h.lM,h.lR,fun i hi=>by have:=h.mM i hi;simpa using this,fun i hi=>by have:=h.mR i hi;simpa using this⟩
theorem AI.setSuf (h:AI n₀ Lab w0 J num suf pre M R W)(hJ:∀pre M R A B,J pre M R A→KS (fun i=>i<w0.heap.size∨R i) A B→J pre M R B)(hn:n₀≤w0.heap.size)(v:Int):AI n₀ Lab w0 J num v pre M R (W.setCell ⟨Lab,1,none⟩ (.int .i64 v)):=
 ⟨hJ _ _ _ _ _ h.j (KS.setCell _ _ (fun(e:Lab<w0.heap.size∨R Lab)=>e.elim (fun e=>by have:=h.l1;omega) h.lR)),h.old.trans (KS.setCell _ _ (fun(e:Lab<n₀)=>by have:=h.l1;omega)),by have:=h.lab.set 1 (.int .i64 v);simpa using this,h.l1,h.lM,h.lR,fun i hi=>by have:=h.mM i hi;simpa using this,fun i hi=>by have:=h.mR i hi;simpa using this⟩
theorem AI.set (h:AI n₀ Lab w0 J num suf pre M R W)(hJ:∀pre M R A B,J pre M R A→KS (fun i=>i<w0.heap.size∨R i) A B→J pre M R B)(hn:n₀≤w0.heap.size){x:Nat}(h1:w0.heap.size≤x)(h2:x≠Lab)(h3:¬R x)(o:Nat)(v:Value):AI n₀ Lab w0 J num suf pre M R (W.setCell ⟨x,o,none⟩ v):=
 ⟨hJ _ _ _ _ _ h.j (KS.setCell _ _ (fun(e:x<w0.heap.size∨R x)=>e.elim (fun e=>by omega) h3)),h.old.trans (KS.setCell _ _ (fun(e:x<n₀)=>by omega)),h.lab.other (Ne.symm h2) o v,h.l1,h.lM,h.lR,fun i hi=>by have:=h.mM i hi;simpa using this,fun i hi=>by have:=h.mR i hi;simpa using this⟩
theorem AI.went (h:AI n₀ Lab w0 J num suf pre M R W){x:PV}{M' R' PM:Nat→Prop}(hj:J (pre++[x]) M' R' W')(hk:KS (fun i=>i<n₀∨(w0.heap.size≤i∧¬M i)) W W')(hM:∀i,M' i→M i∨(W.heap.size≤i∧i<W'.heap.size)) (hR:∀i,R' i→R i∨(PM i∧i<W.heap.size)∨(W.heap.size≤i∧i<W'.heap.size)) (hp:¬PM Lab):AI n₀ Lab w0 J num suf (pre++[x]) M' R' W':=
 ⟨hj,h.old.trans (hk.mono fun i hi _=>.inl hi),(hk.block Lab (.inr ⟨h.l1,h.lM⟩) h.lab.lt).trans h.lab,h.l1,fun e=>(hM _ e).elim h.lM (fun e=>by have:=h.lab.lt;omega),
  fun e=>by
   rcases hR _ e with e|e|e
   ·exact h.lR e
   ·exact hp e.1
   ·have:=h.lab.lt;omega,
  fun i hi=>by
   rcases hM i hi with e|e
   ·exact Nat.lt_of_lt_of_le (h.mM i e) hk.size
   ·exact e.2,
  fun i hi=>by
   rcases hR i hi with e|e|e
   ·exact Nat.lt_of_lt_of_le (h.mR i e) hk.size
   ·exact Nat.lt_of_lt_of_le e.2 hk.size
   ·exact e.2⟩
end
theorem Laid.ks {w w':World}{n₀:Nat}(h:Laid w)(hg:0<n₀)(hk:KS (fun i=>i<n₀) w w'):Laid w':=by
 unfold Laid Lib.TabIs World.var? at h ⊢;rw[gW] at h ⊢;simp only[Option.bind_some] at h ⊢;have hlt:0<w.heap.size:=by
  rcases Nat.lt_or_ge 0 w.heap.size with h'|h'
  ·exact h'
  ·rw[Array.getElem?_eq_none h'] at h;cases h
 rw[hk.block _ hg hlt];exact h
theorem otext_any (A B:Option Addr)(c d:Nat)(a b:List (List Word))(m h:Int)(w:World)(hT:Laid w)(ha:Sl w (fun b=>b<w.heap.size) A c a)(hb:Sl w (fun b=>b<w.heap.size) B d b)(hI:I64 h)(hla:a.length≤1048576)(hlb:b.length≤1048576):
 Calls Tryd.prog 39 #[.agg #[.slice A a.length c,.slice B b.length d],.int .i64 m,.int .i64 h] w fun e w'=>∃A' c' q,e=.returned (.tuple #[.slice A' (Qac a b m h).length c',.int .i64 q])∧ OwnP w' w.heap.size 47 (.slice A' (Qac a b m h).length c') (Qac a b m h) (Up w.heap.size)∧Below w.heap.size w w':=by
 refine(ptext_any A B c d a b m h w hT ha hb hI hla hlb).mono ?_;rintro e w' ⟨v,rfl,h1,h2,hb⟩;by_cases hE:textE a b m h=0
 ·have ho:=(h1 hE).up nL;have he:Qac a b m h=Qar a b m h.toNat:=(by unfold Qac;rw[if_pos hE]);rw[←he] at ho;obtain⟨A',c',rfl,-,-⟩:=ho.len;exact⟨A',c',_,rfl,ho,hb⟩
 ·have he:Qac a b m h=[]:=by unfold Qac;rw[if_neg hE]
  rw[h2 hE,he];exact⟨none,0,_,rfl,OwnP.nil _ _ _ _,hb⟩
theorem page_at {w:World}{S:Nat→Prop}{A:Option Addr}{c:Nat}{l:List PageP}(h:Sl w S A c l){k:Nat}(hk:k<l.length):
 ∃b o va vb,A=some ⟨b,o,none⟩∧S b∧b<w.heap.size∧w.cell? ⟨b,o+k*6,none⟩=some (.int .i64 l[k].num)∧w.cell? ⟨b,o+k*6+1,none⟩=some (.int .i64 l[k].suf)∧w.cell? ⟨b,o+k*6+2,none⟩=some (.int .i64 l[k].entry)∧ w.cell? ⟨b,o+k*6+3,none⟩=some (.int .i64 l[k].ver)∧w.cell? ⟨b,o+k*6+4,none⟩=some va∧w.cell? ⟨b,o+k*6+5,none⟩=some vb∧Rep.R w S [va] l[k].body∧Rep.R w S [vb] l[k].notes:=by
 obtain⟨b,o,es,rfl,hb,hlt,⟨va,vb,rfl,h1,h2⟩,hc⟩:=h.at_ hk;exact⟨b,o,va,vb,rfl,hb,hlt,hc 0 _ rfl,hc 1 _ rfl,hc 2 _ rfl,hc 3 _ rfl,hc 4 _ rfl,hc 5 _ rfl,h1,h2⟩
theorem plainB_cons (m h:Int)(s:SectP)(hl:0<s.texts.length):QaC m h s=(Qac s.texts[0].a s.texts[0].b m h).length:=by
 obtain⟨e,f,vs,ts⟩:=s;cases ts with
 |nil=>exact absurd hl (by simp)
 |cons t ts=>rfl
def WfS (l:List SectP):Prop:=∀s∈l,s.texts.length≤s.vers.length
set_option maxRecDepth 100000 in
theorem all1_any (n lp Bb n₀:Nat)(A:Option Addr)(c:Nat)(ls:List SectP)(m h:Int)(J:JT)(Jx:List PV→World→Prop)(W0:World)(hT:Laid W0)(hg:0<n₀)(hn:n₀≤W0.heap.size)(hBb:Bb<n₀) (hbk:ABox W0 Bb 25 [.int .i64 m,.int .i64 h,.slice A ls.length c]) (hs:Sl W0 (fun b=>b<n₀) A c ls) (hsh:Qdx ls) (hwf:WfS ls) (hI:I64 h) (hJ:∀pre M R A B,J pre M R A→KS (fun i=>i<W0.heap.size∨R i) A B→J pre M R B)
 (hY:∀pre M R x W1 PM,J pre M R W1→W0.heap.size≤W1.heap.size→pre.length<(Qaf m h ls).length→PV.Pr PM x W1→(∀i,PM i→i<W1.heap.size→W0.heap.size≤i∧¬M i)→ YieldAt Fence.wide n Tryd.prog lp x.enc W1 fun e W'=>
   (e=.returned (.bool true)∧∃M' R',J (pre++[x]) M' R' W'∧KS (fun i=>i<n₀∨(W0.heap.size≤i∧¬M i)) W1 W'∧(∀i,M' i→M i∨(W1.heap.size≤i∧i<W'.heap.size))∧(∀i,R' i→R i∨(PM i∧i<W1.heap.size)∨(W1.heap.size≤i∧i<W'.heap.size)))∨
   (e=.returned (.bool false)∧Jx (pre++[x]) W'))
 (h0:J [] (fun _=>False) (fun _=>False) W0):
 Calls Tryd.prog 38 #[.func (.yield lp) #[] #[],.pointer (some ⟨Bb,0,none⟩)] W0 fun e W'=>(∃v,e=.returned v)∧((∃xs,xs.map PV.plain=Qaf m h ls∧∃M R,J xs M R W')∨(∃pre,(∃k,pre.map PV.plain=(Qaf m h ls).take k)∧Jx pre W')):=by
 have HJ:=Lh hJ;have HY:=Lh hY;have HS:=Lh hs;have HSH:=Lh hsh;have HWF:=Lh hwf;have HT:=Lh hT;have HBK:=Lh hbk;have HI:=Lh hI;have hls:ls.length≤1048576:=hsh.1;have HPN:=Lh (pagesB_len (m:=m) (h:=h) hsh);obtain⟨wb,hwb⟩:∃wb,W0.alloc (.cells #[.int .i64 0,.int .i64 0] 45)=wb:=⟨_,rfl⟩;have hba:Below W0.heap.size W0 wb:=by rw[←hwb];exact bR.alloc nL _
 have hlab:ABox wb W0.heap.size 45 [.int .i64 0,.int .i64 0]:=by rw[←hwb];exact heap_alloc_new W0 _
 have HAI:Hid (AI n₀ W0.heap.size W0 J 0 0 [] (fun _=>False) (fun _=>False) wb):=Lh ⟨hJ _ _ _ _ _ h0 (KS.of_below hba _),KS.of_below hba _,hlab,Nat.le_refl _,fun h=>h,fun h=>h,fun _ h=>h.elim,fun _ h=>h.elim⟩;have b2:=(hbk.to hba).cell 2 rfl;have HWB:=Lh hwb;clear hJ hY hs hsh hwf hT hbk hI h0 hba hlab hwb;go_enter Tryd.func38,Tryd.ntmps38;go_upto_region 1 with(fail);rw[HWB.out];go_wp2_with fail;clear b2;obtain⟨Lab,hLab⟩:∃Lab,W0.heap.size=Lab:=⟨_,rfl⟩;have HLE:=Lh hLab;rw[hLab] at HAI ⊢;clear hLab HWB;go_loopw [16] (fun v16 wr=>∃(k:Nat) (num suf:Int) (pre:List PV) (M R:Nat→Prop),k≤ls.length∧v16=.int .i64 (k:Int)∧Hid (AI n₀ Lab W0 J num suf pre M R wr)∧Hid (pre.map PV.plain++Qas m h num (ls.drop k)=Qaf m h ls)∧Hid (0≤num∧num≤pre.length)) (fun v16 _=>ls.length-(intOf v16).toNat);(case atStart=>exact⟨0,0,0,[],_,_,Nat.zero_le _,rfl,HAI,Lh rfl,Lh ⟨Int.le_refl _,Int.le_refl _⟩⟩);case round=>
  clear HAI;clear wb;obtain⟨k,num0,suf0,pre,M,R,hk,rfl,HAI,HEQ,HB⟩:=hrel;by_cases hlt:k<ls.length
  ·obtain⟨wo,rfl⟩:∃wo:World,wo=wr:=⟨_,rfl⟩;have hkl:(k:Int)<(ls.length:Int):=(by omega);have hk0:(0:Int)≤(k:Int):=(by omega);have hlc:ls.length≤c:=HS.out.1;have HSr:Hid (Sl wo (fun b=>b<n₀) A c ls):=Lh (HS.out.old HAI.out.old.kept (by have:=HAI.out.old.size;omega));obtain⟨b,o,Ag,cg,An,cn,hA,hbg,hbl,r0,r1,r2,r3,hvS,htS,-⟩:=sect_at HSr.out hlt;subst hA;have HXS:=Lh (HSH.out.2 ls[k] (List.getElem_mem hlt));have HXW:=Lh (HWF.out ls[k] (List.getElem_mem hlt))
   have HEQ2:Hid (pre.map PV.plain++(QaN m h ls[k].entry 0 num0 0 ls[k].vers ls[k].texts++Qas m h (num0+QaC m h ls[k]) (ls.drop (k+1)))=Qaf m h ls):=Lh (by
    have:=HEQ.out
    rw[List.drop_eq_getElem_cons hlt,Qas] at this
    exact this)
   obtain⟨x,hx⟩:∃x,ls[k]=x:=⟨_,rfl⟩;rw[hx] at r0 r1 r2 r3 hvS htS HXS HXW HEQ2;have HVS:Hid (Sl W0 (fun b=>b<n₀) Ag cg x.vers):=Lh (hvS.old (fun i (hi:i<n₀) _=>(HAI.out.old.block i hi (by omega)).symm) hn);have HTS:Hid (Sl W0 (fun b=>b<n₀) An cn x.texts):=Lh (htS.old (fun i (hi:i<n₀) _=>(HAI.out.old.block i hi (by omega)).symm) hn);clear hx hvS htS HSr HEQ;have hm9:x.texts.length≤1048576:=HXS.out.2.1;obtain⟨ws,hws⟩:∃ws,wo.alloc (.cells #[.int .i64 x.entry,.bool x.frozen,.slice Ag x.vers.length cg,.slice An x.texts.length cn] 34)=ws:=⟨_,rfl⟩;have hbs:Below wo.heap.size wo ws:=(by rw[←hws];exact bR.alloc nL _);have hys:ABox ws wo.heap.size 34 [.int .i64 x.entry,.bool x.frozen,.slice Ag x.vers.length cg,.slice An x.texts.length cn]:=(by rw[←hws];exact heap_alloc_new wo _);have hll:Lab<wo.heap.size:=HAI.out.lab.lt;have HLLT:=Lh hll;have HAS:=Lh (HAI.out.to HJ.out hbs);have q1:=HAS.out.lab.cell 1 rfl;have f1:=HAS.out.lab.fz 1;have HA2:=Lh (HAS.out.setSuf HJ.out hn 0);have HY2:=Lh (hys.other (show wo.heap.size≠Lab by omega) 1 (.int .i64 0));have y3:=HY2.out.cell 3 rfl;have HSX:Hid (W0.heap.size≤wo.heap.size∧¬M wo.heap.size∧wo.heap.size<ws.heap.size):=Lh ⟨HAI.out.old.size,fun h=>by have:=HAI.out.mM _ h;omega,hys.lt⟩;have HWS:=Lh hws;clear hws hbs hys hll HAI HAS;go_upto_region 4 with(fail);rw[HWS.out];go_upto_region 5 with(fail);clear q1 f1 r0 r1 r2 r3;have HSK:Hid (ws.heap.size=(ws.setCell ⟨Lab,1,none⟩ (.int .i64 0)).heap.size):=Lh (by simp);obtain⟨Sx,hSx⟩:∃Sx,wo.heap.size=Sx:=⟨_,rfl⟩;have HSXE:=Lh hSx;rw[hSx] at HY2 HSX y3 ⊢;clear hSx;obtain⟨wt,hwt⟩:∃wt,ws.setCell ⟨Lab,1,none⟩ (.int .i64 0)=wt:=⟨_,rfl⟩;rw[hwt] at HA2 HY2 y3 HSK ⊢;clear hwt;go_wp2_with fail;clear y3
   go_loopw [24] (fun v24 wr=>∃(j:Nat) (num suf:Int) (pre:List PV) (M R:Nat→Prop),j≤x.texts.length∧v24=.int .i64 (j:Int)∧Hid (AI n₀ Lab W0 J num suf pre M R wr)∧Hid (ABox wr Sx 34 [.int .i64 x.entry,.bool x.frozen,.slice Ag x.vers.length cg,.slice An x.texts.length cn]∧¬M Sx)∧ Hid (pre.map PV.plain++(QaN m h x.entry j num suf (x.vers.drop j) (x.texts.drop j)++Qas m h (num0+QaC m h x) (ls.drop (k+1)))=Qaf m h ls)∧Hid ((0≤num∧num≤pre.length)∧(0≤suf∧suf≤pre.length))∧Hid ((j=0→num=num0)∧(0<j→num=num0+QaC m h x))) (fun v24 _=>x.texts.length-(intOf v24).toNat)
   (case atStart=>exact⟨0,num0,0,pre,M,R,Nat.zero_le _,rfl,HA2,Lh ⟨HY2.out,HSX.out.2.1⟩,HEQ2,Lh ⟨HB.out,by omega,by omega⟩,Lh ⟨fun _=>rfl,fun h=>absurd h (by omega)⟩⟩);case round=>
    clear HA2 HY2 HEQ2 HB HSK;have HSX1:=Lh HSX.out.1;have HLS:Hid (Lab<Sx):=Lh (by rw[←HSXE.out];exact HLLT.out);clear HSX;clear wt;obtain⟨j,numS,sufS,pre2,M2,R2,hj,rfl,HAI,HYS,HEQ,HB,HNM⟩:=hrel;by_cases hlj:j<x.texts.length
    ·obtain⟨wp,rfl⟩:∃wp:World,wp=wr:=⟨_,rfl⟩;have hjl:(j:Int)<(x.texts.length:Int):=(by omega);have hj0:(0:Int)≤(j:Int):=(by omega);have hszp:n₀≤wp.heap.size:=(by have:=HAI.out.old.size;omega);have HTSr:Hid (Sl wp (fun b=>b<n₀) An cn x.texts):=Lh (HTS.out.old HAI.out.old.kept hszp);obtain⟨b2,o2,Aa,ca,Ab,cb,hA,-,hbl2,t0,t1,haS,hbS⟩:=text_at HTSr.out hlj;subst hA;have hlc2:x.texts.length≤cn:=HTSr.out.1;have HSX2:=Lh (HXS.out.2.2 x.texts[j] (List.getElem_mem hlj));have hjv:j<x.vers.length:=by have:=HXW.out;omega
     have HEQ2:Hid (pre2.map PV.plain++(QaD x.entry x.vers[j] numS sufS j (Qac x.texts[j].a x.texts[j].b m h)++(QaN m h x.entry (j+1) (if j=0 then numS+(Qac x.texts[j].a x.texts[j].b m h).length else numS) (if j=0 then sufS else sufS+(Qac x.texts[j].a x.texts[j].b m h).length) (x.vers.drop (j+1)) (x.texts.drop (j+1))++ Qas m h (num0+QaC m h x) (ls.drop (k+1))))=Qaf m h ls):=Lh (by
      have h1:=HEQ.out
      rw[List.drop_eq_getElem_cons hlj,List.drop_eq_getElem_cons hjv,QaN,List.headD_cons,List.tail_cons,List.append_assoc] at h1
      exact h1)
     have HPLB:Hid (j=0→QaC m h x=(Qac x.texts[j].a x.texts[j].b m h).length):=Lh (fun h0=>by
      subst h0
      exact plainB_cons m h x hlj)
     obtain⟨y,hy⟩:∃y,x.texts[j]=y:=⟨_,rfl⟩;rw[hy] at t0 t1 haS hbS HSX2 HEQ2 HPLB;obtain⟨vj,hvj⟩:∃vj,x.vers[j]=vj:=⟨_,rfl⟩;have HVJ:Hid (x.vers[j]? =some vj):=Lh (by rw[qG hjv,hvj]);rw[hvj] at HEQ2;have hpl:=Qdk y.a y.b m h;obtain⟨wz,hwz⟩:∃wz,wp.alloc (.cells #[.slice Aa y.a.length ca,.slice Ab y.b.length cb] 38)=wz:=⟨_,rfl⟩;have hbz:Below wp.heap.size wp wz:=(by rw[←hwz];exact bR.alloc nL _);have hzz:ABox wz wp.heap.size 38 [.slice Aa y.a.length ca,.slice Ab y.b.length cb]:=(by rw[←hwz];exact heap_alloc_new wp _);have HAZ:=Lh (HAI.out.to HJ.out hbz);have HYZ:=Lh (HYS.out.1.to hbz);have HBB:Hid (ABox wz Bb 25 [.int .i64 m,.int .i64 h,.slice (some ⟨b,o,none⟩) ls.length c]):=Lh ((HAZ.out.old.block Bb hBb (by omega)).trans HBK.out);have z0:=hzz.cell 0 rfl;have z1:=hzz.cell 1 rfl;have b0:=HBB.out.cell 0 rfl;have b1:=HBB.out.cell 1 rfl
     have HPT:Hid (Calls Tryd.prog 39 #[.agg #[.slice Aa y.a.length ca,.slice Ab y.b.length cb],.int .i64 m,.int .i64 h] wz fun e w'=>∃A' c' q,e=.returned (.tuple #[.slice A' (Qac y.a y.b m h).length c',.int .i64 q])∧ OwnP w' wz.heap.size 47 (.slice A' (Qac y.a y.b m h).length c') (Qac y.a y.b m h) (Up wz.heap.size)∧Below wz.heap.size wz w'):=
      Lh (otext_any Aa Ab ca cb y.a y.b m h wz (HT.out.ks hg HAZ.out.old) ((haS.keep (Kept.all hbz) hbz.size).mono (fun _ _ hl=>hl)) ((hbS.keep (Kept.all hbz) hbz.size).mono (fun _ _ hl=>hl)) HI.out HSX2.out.1.1 HSX2.out.2.1)
     have HZL:Hid (Lab<wz.heap.size∧Sx<wz.heap.size∧W0.heap.size≤wz.heap.size∧(∀i,M2 i→i<wz.heap.size)):=Lh ⟨HAZ.out.lab.lt,HYZ.out.lt,HAZ.out.old.size,HAZ.out.mM⟩;have HWZ:=Lh hwz;have HMX:=Lh HYS.out.2;clear hwz hbz hzz haS hbS HTSr hy hvj HAI HYS HEQ;go_upto_region 8 with(fail);rw[HWZ.out];clear t0 t1;have hsml:=Qcj y.a y.b m h;obtain⟨ps,hps⟩:∃ps,Qac y.a y.b m h=ps:=⟨_,rfl⟩;rw[hps] at HPT HEQ2 HPLB hpl hsml;have HSML:=Lh hsml;clear hsml;clear hps
     go_upto_region 9 with(first|(go_at_call 39;refine HPT.out.mono ?_;rintro e w5 ⟨A5,c5,q5,rfl,ho5,hb5⟩)|fail)
     have HA5:=Lh (HAZ.out.to HJ.out hb5);have HY5:=Lh (HYZ.out.to hb5);have HO5:Hid (OwnP w5 wz.heap.size 47 (.slice A5 ps.length c5) ps (fun b=>wz.heap.size≤b∧¬M2 b)):=Lh (ho5.mono fun i (hi:wz.heap.size≤i) _=>⟨hi,fun e=>by have:=HZL.out.2.2.2 i e;omega⟩);have hpc5:ps.length≤c5:=(by obtain⟨A9,c9,e9,-,h9,-⟩:=ho5.len;cases e9;exact h9);clear z0 z1 b0 b1 ho5 hb5 HAZ HYZ HBB HPT;obtain⟨numE,hnumE⟩:∃q,(if j=0 then numS+(ps.length:Int) else numS)=q:=⟨_,rfl⟩;obtain⟨sufE,hsufE⟩:∃q,(if j=0 then sufS else sufS+(ps.length:Int))=q:=⟨_,rfl⟩;rw[hnumE,hsufE] at HEQ2;have HNE:=Lh hnumE;have HSE:=Lh hsufE;clear hnumE hsufE;go_wp2_with fail
     go_loopw [40] (fun v40 wr=>∃(q:Nat) (num suf:Int) (pre:List PV) (M R:Nat→Prop),q≤ps.length∧v40=.int .i64 (q:Int)∧Hid (AI n₀ Lab W0 J num suf pre M R wr)∧Hid (ABox wr Sx 34 [.int .i64 x.entry,.bool x.frozen,.slice Ag x.vers.length cg,.slice (some ⟨b2,o2,none⟩) x.texts.length cn]∧¬M Sx)∧ Hid (OwnP wr wz.heap.size 47 (.slice A5 ps.length c5) ps (fun b=>wz.heap.size≤b∧¬M b))∧Hid (pre.map PV.plain++(QaD x.entry vj num suf j (ps.drop q)++(QaN m h x.entry (j+1) numE sufE (x.vers.drop (j+1)) (x.texts.drop (j+1))++Qas m h (num0+QaC m h x) (ls.drop (k+1))))=Qaf m h ls)∧ Hid ((0≤num∧num≤pre.length)∧(0≤suf∧suf≤pre.length))∧Hid (num=(if j=0 then numS+(q:Int) else numS)∧suf=(if j=0 then sufS else sufS+(q:Int)))) (fun v40 _=>ps.length-(intOf v40).toNat)
     (case atStart=>exact⟨0,numS,sufS,pre2,M2,R2,Nat.zero_le _,rfl,HA5,Lh ⟨HY5.out,HMX.out⟩,HO5,HEQ2,HB,Lh ⟨by split<;>simp,by split<;>simp⟩⟩);case round=>
      clear HA5 HY5 HO5 HEQ2 HB HMX;have HZ3:Hid (Lab<wz.heap.size∧Sx<wz.heap.size∧W0.heap.size≤wz.heap.size):=Lh ⟨HZL.out.1,HZL.out.2.1,HZL.out.2.2.1⟩;clear HZL;clear pre2 M2 R2 w5;obtain⟨q,num,suf,pre3,M3,R3,hq,rfl,HAI,HYS,HO,HEQ,HB,HNS⟩:=hrel;by_cases hlq:q<ps.length
      ·obtain⟨wl,rfl⟩:∃wl:World,wl=wr:=⟨_,rfl⟩;have hql:(q:Int)<(ps.length:Int):=(by omega);have hq0:(0:Int)≤(q:Int):=(by omega);obtain⟨A9,c9,e9,hps⟩:=HO.out.sl;cases e9;obtain⟨b3,o3,va,vb,hA5,-,hb3l,p0,p1,p2,p3,p4,p5,hrb,hrn⟩:=page_at hps hlq;subst hA5
       have HEQ3:Hid (pre3.map PV.plain++({ps[q] with num:=if j=0 then num+1 else num,suf:=if j=0 then suf else suf+1,entry:=x.entry,ver:=vj}::(QaD x.entry vj (if j=0 then num+1 else num) (if j=0 then suf else suf+1) j (ps.drop (q+1))++(QaN m h x.entry (j+1) numE sufE (x.vers.drop (j+1)) (x.texts.drop (j+1))++Qas m h (num0+QaC m h x) (ls.drop (k+1)))))=Qaf m h ls):=Lh (by
        have h1:=HEQ.out
        rw[List.drop_eq_getElem_cons hlq,Qbu] at h1
        exact h1)
       have HRB:=Lh hrb;have HRN:=Lh hrn;obtain⟨Ab9,cb9,eb,-,-⟩:=hrb;obtain⟨An9,cn9,en,-,-⟩:=hrn;injection eb with eb _
       injection en with en _
       subst eb;subst en;obtain⟨p,hp⟩:∃p,ps[q]=p:=⟨_,rfl⟩;have HSMP:Hid (SmallP p):=Lh (by rw[←hp];exact HSML.out _ (List.getElem_mem _));rw[hp] at p0 p1 p2 p3 p4 p5 HRB HRN HEQ3
       have HLEN:Hid (pre3.length<(Qaf m h ls).length):=Lh (by
        have h1:=congrArg List.length HEQ3.out
        rw[qA,qC,qM] at h1
        omega)
       have hb1:0≤num∧num≤109951162777600000:=(by have:=HB.out.1;have:=HLEN.out;have:=HPN.out;omega);have hb2:0≤suf∧suf≤109951162777600000:=(by have:=HB.out.2;have:=HLEN.out;have:=HPN.out;omega);obtain⟨hb11,hb12⟩:=hb1;obtain⟨hb21,hb22⟩:=hb2;have HOm:Hid (OwnP wl wz.heap.size 47 (.slice (some ⟨b3,o3,none⟩) ps.length c5) ps (fun b=>wz.heap.size≤b∧¬M3 b∧b<wl.heap.size)):=Lh (HO.out.mono fun i hi hil=>⟨hi.1,hi.2,hil⟩);have HRBm:=Lh (Rep.mono (S':=fun b=>wz.heap.size≤b∧¬M3 b∧b<wl.heap.size) HRB.out (fun i hi hil=>⟨hi.1,hi.2,hil⟩));have HRNm:=Lh (Rep.mono (S':=fun b=>wz.heap.size≤b∧¬M3 b∧b<wl.heap.size) HRN.out (fun i hi hil=>⟨hi.1,hi.2,hil⟩));obtain⟨wx,hwx⟩:∃wx,wl.alloc (.cells #[.int .i64 p.num,.int .i64 p.suf,.int .i64 p.entry,.int .i64 p.ver,.slice Ab9 p.body.length cb9,.slice An9 p.notes.length cn9] 47)=wx:=⟨_,rfl⟩;have hbx:Below wl.heap.size wl wx:=by rw[←hwx];exact bR.alloc nL _
       have hxx:ABox wx wl.heap.size 47 [.int .i64 p.num,.int .i64 p.suf,.int .i64 p.entry,.int .i64 p.ver,.slice Ab9 p.body.length cb9,.slice An9 p.notes.length cn9]:=(by rw[←hwx];exact heap_alloc_new wl _);have HAX:=Lh (HAI.out.to HJ.out hbx);have HYX:=Lh (HYS.out.1.to hbx);have HOX:=Lh (HOm.out.below hbx);have HRBX:=Lh (Rep.keep HRBm.out (Kept.all hbx));have HRNX:=Lh (Rep.keep HRNm.out (Kept.all hbx));have HXX:=Lh hxx;have HRP:Hid (¬R3 wl.heap.size):=Lh (fun e=>by have:=HAI.out.mR _ e;omega)
       have HPL:Hid (Lab<wl.heap.size∧Sx<wl.heap.size∧wz.heap.size≤wl.heap.size):=Lh ⟨HAI.out.lab.lt,HYS.out.1.lt,by
        rcases Nat.lt_or_ge wl.heap.size wz.heap.size with h|h
        ·exfalso
         have h1:=(page_at hps hlq)
         obtain⟨_,_,_,_,_,h2,h3,_⟩:=h1
         have:=h2.1
         omega
        ·exact h⟩
       have HMX:=Lh HYS.out.2;have HSLT:Hid (Lab<Sx):=Lh HLS.out;have HWX:=Lh hwx;clear hp hps hbx hxx hwx HAI HYS HO HOm HRB HRN HRBm HRNm HEQ;go_upto_region 12 with(fail);rw[HWX.out];clear p0 p1 p2 p3 p4 p5;obtain⟨Px,hPx⟩:∃Px,wl.heap.size=Px:=⟨_,rfl⟩;have HPE:=Lh hPx;rw[hPx] at HXX HRP HPL HOX HRBX HRNX ⊢;clear hPx HWX;have hl0:=HAX.out.lab.cell 0 rfl;have hf0:=HAX.out.lab.fz 0;have hl1:=HAX.out.lab.cell 1 rfl;have hf1:=HAX.out.lab.fz 1;by_cases hj9:j=0
       ·have hjb:((j:Int)==0)=true:=by rw[beq_iff_eq];omega
        have HEQ4:Hid (pre3.map PV.plain++((⟨(num+1),suf,x.entry,vj,p.body,p.notes⟩:PageP)::(QaD x.entry vj (num+1) suf j (ps.drop (q+1))++(QaN m h x.entry (j+1) numE sufE (x.vers.drop (j+1)) (x.texts.drop (j+1))++Qas m h (num0+QaC m h x) (ls.drop (k+1)))))=Qaf m h ls):=Lh (by
         have h1:=HEQ3.out
         rw[if_pos hj9,if_pos hj9] at h1
         exact h1)
        have HNS4:Hid ((num+1)=(if j=0 then numS+((q+1:Nat):Int) else numS)∧suf=(if j=0 then sufS else sufS+((q+1:Nat):Int))):=Lh (by
         have h1:=HNS.out
         rw[if_pos hj9,if_pos hj9] at h1
         rw[if_pos hj9,if_pos hj9]
         omega)
        clear hj9;go_upto_region 15 with(fail);have HA7:=Lh (HAX.out.setNum HJ.out hn (num+1));have HY7:=Lh (HYX.out.other (show Sx≠Lab by have:=HSX1.out;have:=HSLT.out;omega) 0 (.int .i64 (num+1)));have HX7:=Lh (HXX.out.other (show Px≠Lab by have:=HPL.out;omega) 0 (.int .i64 (num+1)));have HO7:=Lh (HOX.out.set Lab 0 (.int .i64 (num+1)) (fun i hi e=>by have:=hi.1;have:=HZ3.out;omega));have HRB7:=Lh (Rep.keep HRBX.out (KS.setCell (l:=Lab) 0 (.int .i64 (num+1)) (fun(e:wz.heap.size≤Lab∧_)=>by have:=e.1;have:=HZ3.out;omega)).kept);have HRN7:=Lh (Rep.keep HRNX.out (KS.setCell (l:=Lab) 0 (.int .i64 (num+1)) (fun(e:wz.heap.size≤Lab∧_)=>by have:=e.1;have:=HZ3.out;omega)).kept);clear hl0 hf0 hl1 hf1 HAX HYX HXX HOX HRBX HRNX HEQ3;generalize wx.setCell ⟨Lab,0,none⟩ (.int .i64 (num+1))=w7 at*;obtain⟨nn,hnn⟩:∃nn,(num+1)=nn:=⟨_,rfl⟩;obtain⟨sn,hsn⟩:∃sn,suf=sn:=⟨_,rfl⟩;have HNB:Hid ((0≤nn∧nn≤pre3.length+1)∧(0≤sn∧sn≤pre3.length+1)):=Lh (by have:=HB.out;omega);rw[hnn] at HA7 HEQ4 HNS4;rw[hsn] at HA7 HEQ4 HNS4;clear hnn hsn;have hszv:n₀≤w7.heap.size:=(by have:=HA7.out.old.size;omega);have HVr:Hid (Sl w7 (fun b=>b<n₀) Ag cg x.vers):=Lh (HVS.out.old HA7.out.old.kept hszv);obtain⟨bv,ov,hAg,hbv,-,-,cv⟩:=QbK HVr.out hjv;subst hAg;have hvc:x.vers.length≤cg:=HVr.out.1;have hvj2:x.vers[j]=vj:=(by have h:=HVJ.out;rw[qG hjv] at h;exact Option.some.inj h);rw[hvj2] at cv;clear hvj2 HVr;have hjvI:(j:Int)<(x.vers.length:Int):=by omega
        refine Qay (fun w'=>w'.cell? ⟨Lab,0,none⟩=some (.int .i64 nn)∧w'.cell? ⟨Lab,1,none⟩=some (.int .i64 sn)∧w'.cell? ⟨Sx,0,none⟩=some (.int .i64 x.entry)∧w'.cell? ⟨Sx,2,none⟩=some (.slice (some ⟨bv,ov,none⟩) x.vers.length cg)∧w'.cell? ⟨bv,ov+j,none⟩=some (.int .i64 vj)) (fun i=>decide (i<13)) (by kernel_rfl) ?_;have hbz:Below w7.heap.size w7 w7.drew:=bR.drew;have HA8:=Lh (HA7.out.to HJ.out hbz);have HY8:=Lh (HY7.out.to hbz);have HX8:=Lh (HX7.out.to hbz);have HO8:=Lh (HO7.out.below hbz);have HRB8:=Lh (Rep.keep HRB7.out (Kept.all hbz));have HRN8:=Lh (Rep.keep HRN7.out (Kept.all hbz));have cv8:w7.drew.cell? ⟨bv,ov+j,none⟩=some (.int .i64 vj):=cv;clear hbz HA7 HY7 HX7 HO7 HRB7 HRN7 cv;generalize w7.drew=W8 at*;have hS0:W8.cell? ⟨Lab,0,none⟩=some (.int .i64 nn)∧W8.cell? ⟨Lab,1,none⟩=some (.int .i64 sn)∧W8.cell? ⟨Sx,0,none⟩=some (.int .i64 x.entry)∧W8.cell? ⟨Sx,2,none⟩=some (.slice (some ⟨bv,ov,none⟩) x.vers.length cg)∧W8.cell? ⟨bv,ov+j,none⟩=some (.int .i64 vj):=
         ⟨HA8.out.lab.cell 0 rfl,HA8.out.lab.cell 1 rfl,HY8.out.cell 0 rfl,HY8.out.cell 2 rfl,cv8⟩
        have HSP:Hid (∀W,KS (fun i=>i≠Px) W8 W→W.cell? ⟨Lab,0,none⟩=some (.int .i64 nn)∧W.cell? ⟨Lab,1,none⟩=some (.int .i64 sn)∧W.cell? ⟨Sx,0,none⟩=some (.int .i64 x.entry)∧W.cell? ⟨Sx,2,none⟩=some (.slice (some ⟨bv,ov,none⟩) x.vers.length cg)∧W.cell? ⟨bv,ov+j,none⟩=some (.int .i64 vj)):=Lh (fun W hW=>by
         have e1:Lab≠Px:=(by have:=HPL.out;omega)
         have e2:Sx≠Px:=(by have:=HPL.out;omega)
         have e3:bv≠Px:=(by have:=HPL.out;have:=HZ3.out;have:=hbv;have:=hn;omega)
         exact⟨hW.kept.cell e1 hS0.1,hW.kept.cell e1 hS0.2.1,hW.kept.cell e2 hS0.2.2.1,hW.kept.cell e2 hS0.2.2.2.1,hW.kept.cell e3 hS0.2.2.2.2⟩)
        clear cv8;refine tE 0 ⟨some 54,Op.load 45 (.tmp 3),45,_,_,_⟩ ?_ rfl ?zq0 (hS0) ?zq1;(case zq0=>intro wS hSw;(have hq:=hSw.1);(have hq2:=hSw.2.1);clear hSw;go_simp;(try with_reducible rfl));(all_goals try go_frame);refine tE 1 ⟨some 55,Op.fieldAddr 34 (.tmp 5) 0,0,_,_,_⟩ ?_ rfl ?zq2 (hS0) ?zq3;(case zq2=>intro _ s;clear s;go_simp;(try with_reducible rfl));(all_goals try go_frame);refine tE 2 ⟨some 56,Op.load 3 (.tmp 55),3,_,_,_⟩ ?_ rfl ?zq4 (hS0) ?zq5;(case zq4=>intro wS hSw;(have hq:=hSw.2.2.1);clear hSw;go_simp;(try with_reducible rfl));(all_goals try go_frame);refine tE 3 ⟨some 57,Op.fieldAddr 34 (.tmp 5) 2,0,_,_,_⟩ ?_ rfl ?zq6 (hS0) ?zq7;(case zq6=>intro _ s;clear s;go_simp;(try with_reducible rfl));(all_goals try go_frame);refine tE 4 ⟨some 58,Op.load 22 (.tmp 57),22,_,_,_⟩ ?_ rfl ?zq8 (hS0) ?zq9;(case zq8=>intro wS hSw;(have hq:=hSw.2.2.2.1);clear hSw;go_simp;(try with_reducible rfl));(all_goals try go_frame);refine tE 5 ⟨some 59,Op.move (.tmp 6),3,_,_,_⟩ ?_ rfl ?zq10 (hS0) ?zq11;(case zq10=>intro _ s;clear s;go_simp;(try with_reducible rfl));(all_goals try go_frame);refine tE 6 ⟨some 60,Op.indexAddr 22 (.tmp 58) (.tmp 59),0,_,_,_⟩ ?_ rfl ?zq12 (hS0) ?zq13;(case zq12=>intro _ s;clear s;go_simp;(try with_reducible rfl));(all_goals try go_frame);refine tE 7 ⟨some 61,Op.load 3 (.tmp 60),3,_,_,_⟩ ?_ rfl ?zq14 (hS0) ?zq15;(case zq14=>intro wS hSw;(have hq:=hSw.2.2.2.2);clear hSw;go_simp;(try with_reducible rfl));(all_goals try go_frame);refine tE 8 ⟨some 62,Op.fieldAddr 47 (.tmp 11) 0,0,_,_,_⟩ ?_ rfl ?zq16 (hS0) ?zq17;(case zq16=>intro _ s;clear s;go_simp;(try with_reducible rfl));(all_goals try go_frame);refine tD 9 ⟨none,Op.store 45 (.tmp 62) (.tmp 54),0,_,_,_⟩ rfl fun K hK=>?_
        have x0:=HX8.out.cell 0 rfl;have y0:=HX8.out.fz 0;have x1:=(HX8.out.set 0 (.int .i64 nn)).cell 1 rfl;have y1:=(HX8.out.set 0 (.int .i64 nn)).fz 1;go_simp;clear x0 y0 x1 y1;refine hK _ _ (fun _=>?_) ?_
        ·exact(HSP.out _ ((KS.setCell _ _ (fun h=>h rfl)).trans (KS.setCell _ _ (fun h=>h rfl))))
        clear hK K;(try simp only[Act.put]);refine tE 10 ⟨some 63,Op.fieldAddr 47 (.tmp 11) 1,0,_,_,_⟩ ?_ rfl ?zq18 ((HSP.out _ ((KS.setCell _ _ (fun h=>h rfl)).trans (KS.setCell _ _ (fun h=>h rfl))))) ?zq19;(case zq18=>intro _ s;clear s;go_simp;(try with_reducible rfl));(all_goals try go_frame);refine tD 11 ⟨none,Op.store 3 (.tmp 63) (.tmp 56),0,_,_,_⟩ rfl fun K hK=>?_
        have x2:=((HX8.out.set 0 (.int .i64 nn)).set 1 (.int .i64 sn)).cell 2 rfl;have y2:=((HX8.out.set 0 (.int .i64 nn)).set 1 (.int .i64 sn)).fz 2;go_simp;clear x2 y2;refine hK _ _ (fun _=>?_) ?_
        ·exact(HSP.out _ (((KS.setCell _ _ (fun h=>h rfl)).trans (KS.setCell _ _ (fun h=>h rfl))).trans (KS.setCell _ _ (fun h=>h rfl))))
        clear hK K;(try simp only[Act.put]);refine tE 12 ⟨some 64,Op.fieldAddr 47 (.tmp 11) 2,0,_,_,_⟩ ?_ rfl ?zq20 ((HSP.out _ (((KS.setCell _ _ (fun h=>h rfl)).trans (KS.setCell _ _ (fun h=>h rfl))).trans (KS.setCell _ _ (fun h=>h rfl))))) ?zq21;(case zq20=>intro _ s;clear s;go_simp;(try with_reducible rfl));(all_goals try go_frame);refine tD 13 ⟨none,Op.store 3 (.tmp 64) (.tmp 61),0,_,_,_⟩ rfl fun K hK=>?_
        have x3:=(((HX8.out.set 0 (.int .i64 nn)).set 1 (.int .i64 sn)).set 2 (.int .i64 x.entry)).cell 3 rfl;have y3:=(((HX8.out.set 0 (.int .i64 nn)).set 1 (.int .i64 sn)).set 2 (.int .i64 x.entry)).fz 3;go_simp;clear x3 y3;refine hK _ _ (fun h=>absurd h (by decide)) ?_;clear hK K;(try simp only[Act.put]);refine Qam (by kernel_rfl) ?_ _;unfold Exit.then;have hpn1:W0.heap.size≤Px:=(by have:=HPL.out;have:=HZ3.out;omega);have hpn2:Px≠Lab:=by have:=HPL.out;omega
        have HA9:=Lh ((((HA8.out.set HJ.out hn hpn1 hpn2 HRP.out 0 (.int .i64 nn)).set HJ.out hn hpn1 hpn2 HRP.out 1 (.int .i64 sn)).set HJ.out hn hpn1 hpn2 HRP.out 2 (.int .i64 x.entry)).set HJ.out hn hpn1 hpn2 HRP.out 3 (.int .i64 vj));have e2:Sx≠Px:=(by have:=HPL.out;omega);have HY9:=Lh ((((HY8.out.other e2 0 (.int .i64 nn)).other e2 1 (.int .i64 sn)).other e2 2 (.int .i64 x.entry)).other e2 3 (.int .i64 vj));have HX9:Hid (ABox ((((W8.setCell ⟨Px,0,none⟩ (.int .i64 nn)).setCell ⟨Px,1,none⟩ (.int .i64 sn)).setCell ⟨Px,2,none⟩ (.int .i64 x.entry)).setCell ⟨Px,3,none⟩ (.int .i64 vj)) Px 47 [.int .i64 nn,.int .i64 sn,.int .i64 x.entry,.int .i64 vj,.slice Ab9 p.body.length cb9,.slice An9 p.notes.length cn9]):=Lh (by have h9:=(((HX8.out.set 0 (.int .i64 nn)).set 1 (.int .i64 sn)).set 2 (.int .i64 x.entry)).set 3 (.int .i64 vj);simpa using h9);have hks:KS (fun b=>wz.heap.size≤b∧¬M3 b∧b<Px) W8 ((((W8.setCell ⟨Px,0,none⟩ (.int .i64 nn)).setCell ⟨Px,1,none⟩ (.int .i64 sn)).setCell ⟨Px,2,none⟩ (.int .i64 x.entry)).setCell ⟨Px,3,none⟩ (.int .i64 vj)):=((KS.setCell _ _ (fun h=>by have:=h.2.2;omega)).trans (KS.setCell _ _ (fun h=>by have:=h.2.2;omega))).trans (KS.setCell _ _ (fun h=>by have:=h.2.2;omega)) |>.trans (KS.setCell _ _ (fun h=>by have:=h.2.2;omega));have HO9:=Lh (HO8.out.kept hks.kept);have HPR:Hid (PV.Pr (fun b=>wz.heap.size≤b∧¬M3 b∧b<Px) ⟨nn,sn,x.entry,vj,p.body,p.notes,Ab9,cb9,An9,cn9⟩ ((((W8.setCell ⟨Px,0,none⟩ (.int .i64 nn)).setCell ⟨Px,1,none⟩ (.int .i64 sn)).setCell ⟨Px,2,none⟩ (.int .i64 x.entry)).setCell ⟨Px,3,none⟩ (.int .i64 vj))):=Lh ⟨Rep.keep HRB8.out hks.kept,Rep.keep HRN8.out hks.kept,HSMP.out⟩;clear hks hS0 HSP HA8 HY8 HX8 HO8 HRB8 HRN8;generalize ((((W8.setCell ⟨Px,0,none⟩ (.int .i64 nn)).setCell ⟨Px,1,none⟩ (.int .i64 sn)).setCell ⟨Px,2,none⟩ (.int .i64 x.entry)).setCell ⟨Px,3,none⟩ (.int .i64 vj))=W9 at*;go_upto_region 16 with(fail);have hx0:=HX9.out.cell 0 rfl;have hx1:=HX9.out.cell 1 rfl;have hx2:=HX9.out.cell 2 rfl;have hx3:=HX9.out.cell 3 rfl;have hx4:=HX9.out.cell 4 rfl;have hx5:=HX9.out.cell 5 rfl;obtain⟨fn,tmps,assign,bodyc,hy,hR⟩:=HY.out pre3 M3 R3 ⟨nn,sn,x.entry,vj,p.body,p.notes,Ab9,cb9,An9,cn9⟩ W9 _ HA9.out.j HA9.out.old.size HLEN.out HPR.out (fun i hi _=>⟨by have:=hi.1;have:=HZ3.out;omega,hi.2.1⟩);unfold PV.enc at hy;dsimp only at hy;refine(wpIn_wide (n:=n+1)).1 ?_;gi_wp2;refine hR.mono ?_;have HW9:=Lh HA9.out.lab.lt;clear hR hy hx0 hx1 hx2 hx3 hx4 hx5;rintro e W10 (⟨rfl,M',R',hJ9,hK9,hM9,hR9⟩|⟨rfl,hJx9⟩)
        ·have HA10:=Lh (HA9.out.went hJ9 hK9 hM9 hR9 (fun h=>by have:=h.1;have:=HZ3.out;omega));have HY10:Hid (ABox W10 Sx 34 [.int .i64 x.entry,.bool x.frozen,.slice (some ⟨bv,ov,none⟩) x.vers.length cg,.slice (some ⟨b2,o2,none⟩) x.texts.length cn]∧¬M' Sx):=Lh ⟨(hK9.block Sx (.inr ⟨HSX1.out,HMX.out⟩) HY9.out.lt).trans HY9.out,fun h=>(hM9 _ h).elim HMX.out (fun h=>by have:=HY9.out.lt;omega)⟩;have HO10:Hid (OwnP W10 wz.heap.size 47 (.slice (some ⟨b3,o3,none⟩) ps.length c5) ps (fun b=>wz.heap.size≤b∧¬M' b)):=Lh ((HO9.out.kept (fun i hi hil=>hK9.block i (.inr ⟨by have:=hi.1;have:=HZ3.out;omega,hi.2.1⟩) hil)).mono (fun i hi _=>⟨hi.1,fun h=>(hM9 _ h).elim hi.2.1 (fun h=>by have:=hi.2.2;have:=HX9.out.lt;omega)⟩))
         have HEQ5:Hid ((pre3++[(⟨nn,sn,x.entry,vj,p.body,p.notes,Ab9,cb9,An9,cn9⟩:PV)]).map PV.plain++(QaD x.entry vj nn sn j (ps.drop (q+1))++(QaN m h x.entry (j+1) numE sufE (x.vers.drop (j+1)) (x.texts.drop (j+1))++Qas m h (num0+QaC m h x) (ls.drop (k+1))))=Qaf m h ls):=Lh (by
          rw[List.map_append,List.append_assoc];exact HEQ4.out)
         have HB5:Hid ((0≤nn∧nn≤(pre3++[(⟨nn,sn,x.entry,vj,p.body,p.notes,Ab9,cb9,An9,cn9⟩:PV)]).length)∧(0≤sn∧sn≤(pre3++[(⟨nn,sn,x.entry,vj,p.body,p.notes,Ab9,cb9,An9,cn9⟩:PV)]).length)):=Lh (by
          rw[qA,List.length_singleton];have:=HNB.out;omega)
         clear hJ9 hK9 hM9 hR9 HA9 HY9 HX9 HO9 HPR;gi_wp2;go_wp2_with fail;go_roundw;(case rel=>exact⟨q+1,nn,sn,_,M',R',by omega,by go_num,HA10,HY10,HO10,HEQ5,HB5,HNS4⟩);case measure=>(first|(simp[intOf];done)|(simp[intOf];omega))
        ·gi_wp2;go_wp2_with fail;refine bodyPost_ret (results_none rfl _ _ _) rfl ?_;refine⟨⟨_,rfl⟩,.inr ⟨_,⟨pre3.length+1,?_⟩,hJx9⟩⟩;rw[←HEQ4.out,List.take_append];simp[PV.plain];rw[List.take_of_length_le (by rw[qM];omega)]
       ·have hjb:((j:Int)==0)=false:=by rw[beq_eq_false_iff_ne];omega
        have HEQ4:Hid (pre3.map PV.plain++((⟨num,(suf+1),x.entry,vj,p.body,p.notes⟩:PageP)::(QaD x.entry vj num (suf+1) j (ps.drop (q+1))++(QaN m h x.entry (j+1) numE sufE (x.vers.drop (j+1)) (x.texts.drop (j+1))++Qas m h (num0+QaC m h x) (ls.drop (k+1)))))=Qaf m h ls):=Lh (by
         have h1:=HEQ3.out
         rw[if_neg hj9,if_neg hj9] at h1
         exact h1)
        have HNS4:Hid (num=(if j=0 then numS+((q+1:Nat):Int) else numS)∧(suf+1)=(if j=0 then sufS else sufS+((q+1:Nat):Int))):=Lh (by
         have h1:=HNS.out
         rw[if_neg hj9,if_neg hj9] at h1
         rw[if_neg hj9,if_neg hj9]
         omega)
        clear hj9;go_upto_region 15 with(fail);have HA7:=Lh (HAX.out.setSuf HJ.out hn (suf+1));have HY7:=Lh (HYX.out.other (show Sx≠Lab by have:=HSX1.out;have:=HSLT.out;omega) 1 (.int .i64 (suf+1)));have HX7:=Lh (HXX.out.other (show Px≠Lab by have:=HPL.out;omega) 1 (.int .i64 (suf+1)));have HO7:=Lh (HOX.out.set Lab 1 (.int .i64 (suf+1)) (fun i hi e=>by have:=hi.1;have:=HZ3.out;omega));have HRB7:=Lh (Rep.keep HRBX.out (KS.setCell (l:=Lab) 1 (.int .i64 (suf+1)) (fun(e:wz.heap.size≤Lab∧_)=>by have:=e.1;have:=HZ3.out;omega)).kept);have HRN7:=Lh (Rep.keep HRNX.out (KS.setCell (l:=Lab) 1 (.int .i64 (suf+1)) (fun(e:wz.heap.size≤Lab∧_)=>by have:=e.1;have:=HZ3.out;omega)).kept);clear hl0 hf0 hl1 hf1 HAX HYX HXX HOX HRBX HRNX HEQ3;generalize wx.setCell ⟨Lab,1,none⟩ (.int .i64 (suf+1))=w7 at*;obtain⟨nn,hnn⟩:∃nn,num=nn:=⟨_,rfl⟩;obtain⟨sn,hsn⟩:∃sn,(suf+1)=sn:=⟨_,rfl⟩;have HNB:Hid ((0≤nn∧nn≤pre3.length+1)∧(0≤sn∧sn≤pre3.length+1)):=Lh (by have:=HB.out;omega);rw[hnn] at HA7 HEQ4 HNS4;rw[hsn] at HA7 HEQ4 HNS4;clear hnn hsn;have hszv:n₀≤w7.heap.size:=(by have:=HA7.out.old.size;omega);have HVr:Hid (Sl w7 (fun b=>b<n₀) Ag cg x.vers):=Lh (HVS.out.old HA7.out.old.kept hszv);obtain⟨bv,ov,hAg,hbv,-,-,cv⟩:=QbK HVr.out hjv;subst hAg;have hvc:x.vers.length≤cg:=HVr.out.1;have hvj2:x.vers[j]=vj:=(by have h:=HVJ.out;rw[qG hjv] at h;exact Option.some.inj h);rw[hvj2] at cv;clear hvj2 HVr;have hjvI:(j:Int)<(x.vers.length:Int):=by omega
        refine Qay (fun w'=>w'.cell? ⟨Lab,0,none⟩=some (.int .i64 nn)∧w'.cell? ⟨Lab,1,none⟩=some (.int .i64 sn)∧w'.cell? ⟨Sx,0,none⟩=some (.int .i64 x.entry)∧w'.cell? ⟨Sx,2,none⟩=some (.slice (some ⟨bv,ov,none⟩) x.vers.length cg)∧w'.cell? ⟨bv,ov+j,none⟩=some (.int .i64 vj)) (fun i=>decide (i<13)) (by kernel_rfl) ?_;have hbz:Below w7.heap.size w7 w7.drew:=bR.drew;have HA8:=Lh (HA7.out.to HJ.out hbz);have HY8:=Lh (HY7.out.to hbz);have HX8:=Lh (HX7.out.to hbz);have HO8:=Lh (HO7.out.below hbz);have HRB8:=Lh (Rep.keep HRB7.out (Kept.all hbz));have HRN8:=Lh (Rep.keep HRN7.out (Kept.all hbz));have cv8:w7.drew.cell? ⟨bv,ov+j,none⟩=some (.int .i64 vj):=cv;clear hbz HA7 HY7 HX7 HO7 HRB7 HRN7 cv;generalize w7.drew=W8 at*;have hS0:W8.cell? ⟨Lab,0,none⟩=some (.int .i64 nn)∧W8.cell? ⟨Lab,1,none⟩=some (.int .i64 sn)∧W8.cell? ⟨Sx,0,none⟩=some (.int .i64 x.entry)∧W8.cell? ⟨Sx,2,none⟩=some (.slice (some ⟨bv,ov,none⟩) x.vers.length cg)∧W8.cell? ⟨bv,ov+j,none⟩=some (.int .i64 vj):=
         ⟨HA8.out.lab.cell 0 rfl,HA8.out.lab.cell 1 rfl,HY8.out.cell 0 rfl,HY8.out.cell 2 rfl,cv8⟩
        have HSP:Hid (∀W,KS (fun i=>i≠Px) W8 W→W.cell? ⟨Lab,0,none⟩=some (.int .i64 nn)∧W.cell? ⟨Lab,1,none⟩=some (.int .i64 sn)∧W.cell? ⟨Sx,0,none⟩=some (.int .i64 x.entry)∧W.cell? ⟨Sx,2,none⟩=some (.slice (some ⟨bv,ov,none⟩) x.vers.length cg)∧W.cell? ⟨bv,ov+j,none⟩=some (.int .i64 vj)):=Lh (fun W hW=>by
         have e1:Lab≠Px:=(by have:=HPL.out;omega)
         have e2:Sx≠Px:=(by have:=HPL.out;omega)
         have e3:bv≠Px:=(by have:=HPL.out;have:=HZ3.out;have:=hbv;have:=hn;omega)
         exact⟨hW.kept.cell e1 hS0.1,hW.kept.cell e1 hS0.2.1,hW.kept.cell e2 hS0.2.2.1,hW.kept.cell e2 hS0.2.2.2.1,hW.kept.cell e3 hS0.2.2.2.2⟩)
        clear cv8;refine tE 0 ⟨some 54,Op.load 45 (.tmp 3),45,_,_,_⟩ ?_ rfl ?zq22 (hS0) ?zq23;(case zq22=>intro wS hSw;(have hq:=hSw.1);(have hq2:=hSw.2.1);clear hSw;go_simp;(try with_reducible rfl));(all_goals try go_frame);refine tE 1 ⟨some 55,Op.fieldAddr 34 (.tmp 5) 0,0,_,_,_⟩ ?_ rfl ?zq24 (hS0) ?zq25;(case zq24=>intro _ s;clear s;go_simp;(try with_reducible rfl));(all_goals try go_frame);refine tE 2 ⟨some 56,Op.load 3 (.tmp 55),3,_,_,_⟩ ?_ rfl ?zq26 (hS0) ?zq27;(case zq26=>intro wS hSw;(have hq:=hSw.2.2.1);clear hSw;go_simp;(try with_reducible rfl));(all_goals try go_frame);refine tE 3 ⟨some 57,Op.fieldAddr 34 (.tmp 5) 2,0,_,_,_⟩ ?_ rfl ?zq28 (hS0) ?zq29;(case zq28=>intro _ s;clear s;go_simp;(try with_reducible rfl));(all_goals try go_frame);refine tE 4 ⟨some 58,Op.load 22 (.tmp 57),22,_,_,_⟩ ?_ rfl ?zq30 (hS0) ?zq31;(case zq30=>intro wS hSw;(have hq:=hSw.2.2.2.1);clear hSw;go_simp;(try with_reducible rfl));(all_goals try go_frame);refine tE 5 ⟨some 59,Op.move (.tmp 6),3,_,_,_⟩ ?_ rfl ?zq32 (hS0) ?zq33;(case zq32=>intro _ s;clear s;go_simp;(try with_reducible rfl));(all_goals try go_frame);refine tE 6 ⟨some 60,Op.indexAddr 22 (.tmp 58) (.tmp 59),0,_,_,_⟩ ?_ rfl ?zq34 (hS0) ?zq35;(case zq34=>intro _ s;clear s;go_simp;(try with_reducible rfl));(all_goals try go_frame);refine tE 7 ⟨some 61,Op.load 3 (.tmp 60),3,_,_,_⟩ ?_ rfl ?zq36 (hS0) ?zq37;(case zq36=>intro wS hSw;(have hq:=hSw.2.2.2.2);clear hSw;go_simp;(try with_reducible rfl));(all_goals try go_frame);refine tE 8 ⟨some 62,Op.fieldAddr 47 (.tmp 11) 0,0,_,_,_⟩ ?_ rfl ?zq38 (hS0) ?zq39;(case zq38=>intro _ s;clear s;go_simp;(try with_reducible rfl));(all_goals try go_frame);refine tD 9 ⟨none,Op.store 45 (.tmp 62) (.tmp 54),0,_,_,_⟩ rfl fun K hK=>?_
        have x0:=HX8.out.cell 0 rfl;have y0:=HX8.out.fz 0;have x1:=(HX8.out.set 0 (.int .i64 nn)).cell 1 rfl;have y1:=(HX8.out.set 0 (.int .i64 nn)).fz 1;go_simp;clear x0 y0 x1 y1;refine hK _ _ (fun _=>?_) ?_
        ·exact(HSP.out _ ((KS.setCell _ _ (fun h=>h rfl)).trans (KS.setCell _ _ (fun h=>h rfl))))
        clear hK K;(try simp only[Act.put]);refine tE 10 ⟨some 63,Op.fieldAddr 47 (.tmp 11) 1,0,_,_,_⟩ ?_ rfl ?zq40 ((HSP.out _ ((KS.setCell _ _ (fun h=>h rfl)).trans (KS.setCell _ _ (fun h=>h rfl))))) ?zq41;(case zq40=>intro _ s;clear s;go_simp;(try with_reducible rfl));(all_goals try go_frame);refine tD 11 ⟨none,Op.store 3 (.tmp 63) (.tmp 56),0,_,_,_⟩ rfl fun K hK=>?_
        have x2:=((HX8.out.set 0 (.int .i64 nn)).set 1 (.int .i64 sn)).cell 2 rfl;have y2:=((HX8.out.set 0 (.int .i64 nn)).set 1 (.int .i64 sn)).fz 2;go_simp;clear x2 y2;refine hK _ _ (fun _=>?_) ?_
        ·exact(HSP.out _ (((KS.setCell _ _ (fun h=>h rfl)).trans (KS.setCell _ _ (fun h=>h rfl))).trans (KS.setCell _ _ (fun h=>h rfl))))
        clear hK K;(try simp only[Act.put]);refine tE 12 ⟨some 64,Op.fieldAddr 47 (.tmp 11) 2,0,_,_,_⟩ ?_ rfl ?zq42 ((HSP.out _ (((KS.setCell _ _ (fun h=>h rfl)).trans (KS.setCell _ _ (fun h=>h rfl))).trans (KS.setCell _ _ (fun h=>h rfl))))) ?zq43;(case zq42=>intro _ s;clear s;go_simp;(try with_reducible rfl));(all_goals try go_frame);refine tD 13 ⟨none,Op.store 3 (.tmp 64) (.tmp 61),0,_,_,_⟩ rfl fun K hK=>?_
        have x3:=(((HX8.out.set 0 (.int .i64 nn)).set 1 (.int .i64 sn)).set 2 (.int .i64 x.entry)).cell 3 rfl;have y3:=(((HX8.out.set 0 (.int .i64 nn)).set 1 (.int .i64 sn)).set 2 (.int .i64 x.entry)).fz 3;go_simp;clear x3 y3;refine hK _ _ (fun h=>absurd h (by decide)) ?_;clear hK K;(try simp only[Act.put]);refine Qam (by kernel_rfl) ?_ _;unfold Exit.then;have hpn1:W0.heap.size≤Px:=(by have:=HPL.out;have:=HZ3.out;omega);have hpn2:Px≠Lab:=by have:=HPL.out;omega
        have HA9:=Lh ((((HA8.out.set HJ.out hn hpn1 hpn2 HRP.out 0 (.int .i64 nn)).set HJ.out hn hpn1 hpn2 HRP.out 1 (.int .i64 sn)).set HJ.out hn hpn1 hpn2 HRP.out 2 (.int .i64 x.entry)).set HJ.out hn hpn1 hpn2 HRP.out 3 (.int .i64 vj));have e2:Sx≠Px:=(by have:=HPL.out;omega);have HY9:=Lh ((((HY8.out.other e2 0 (.int .i64 nn)).other e2 1 (.int .i64 sn)).other e2 2 (.int .i64 x.entry)).other e2 3 (.int .i64 vj));have HX9:Hid (ABox ((((W8.setCell ⟨Px,0,none⟩ (.int .i64 nn)).setCell ⟨Px,1,none⟩ (.int .i64 sn)).setCell ⟨Px,2,none⟩ (.int .i64 x.entry)).setCell ⟨Px,3,none⟩ (.int .i64 vj)) Px 47 [.int .i64 nn,.int .i64 sn,.int .i64 x.entry,.int .i64 vj,.slice Ab9 p.body.length cb9,.slice An9 p.notes.length cn9]):=Lh (by have h9:=(((HX8.out.set 0 (.int .i64 nn)).set 1 (.int .i64 sn)).set 2 (.int .i64 x.entry)).set 3 (.int .i64 vj);simpa using h9);have hks:KS (fun b=>wz.heap.size≤b∧¬M3 b∧b<Px) W8 ((((W8.setCell ⟨Px,0,none⟩ (.int .i64 nn)).setCell ⟨Px,1,none⟩ (.int .i64 sn)).setCell ⟨Px,2,none⟩ (.int .i64 x.entry)).setCell ⟨Px,3,none⟩ (.int .i64 vj)):=((KS.setCell _ _ (fun h=>by have:=h.2.2;omega)).trans (KS.setCell _ _ (fun h=>by have:=h.2.2;omega))).trans (KS.setCell _ _ (fun h=>by have:=h.2.2;omega)) |>.trans (KS.setCell _ _ (fun h=>by have:=h.2.2;omega));have HO9:=Lh (HO8.out.kept hks.kept);have HPR:Hid (PV.Pr (fun b=>wz.heap.size≤b∧¬M3 b∧b<Px) ⟨nn,sn,x.entry,vj,p.body,p.notes,Ab9,cb9,An9,cn9⟩ ((((W8.setCell ⟨Px,0,none⟩ (.int .i64 nn)).setCell ⟨Px,1,none⟩ (.int .i64 sn)).setCell ⟨Px,2,none⟩ (.int .i64 x.entry)).setCell ⟨Px,3,none⟩ (.int .i64 vj))):=Lh ⟨Rep.keep HRB8.out hks.kept,Rep.keep HRN8.out hks.kept,HSMP.out⟩;clear hks hS0 HSP HA8 HY8 HX8 HO8 HRB8 HRN8;generalize ((((W8.setCell ⟨Px,0,none⟩ (.int .i64 nn)).setCell ⟨Px,1,none⟩ (.int .i64 sn)).setCell ⟨Px,2,none⟩ (.int .i64 x.entry)).setCell ⟨Px,3,none⟩ (.int .i64 vj))=W9 at*;go_upto_region 16 with(fail);have hx0:=HX9.out.cell 0 rfl;have hx1:=HX9.out.cell 1 rfl;have hx2:=HX9.out.cell 2 rfl;have hx3:=HX9.out.cell 3 rfl;have hx4:=HX9.out.cell 4 rfl;have hx5:=HX9.out.cell 5 rfl;obtain⟨fn,tmps,assign,bodyc,hy,hR⟩:=HY.out pre3 M3 R3 ⟨nn,sn,x.entry,vj,p.body,p.notes,Ab9,cb9,An9,cn9⟩ W9 _ HA9.out.j HA9.out.old.size HLEN.out HPR.out (fun i hi _=>⟨by have:=hi.1;have:=HZ3.out;omega,hi.2.1⟩);unfold PV.enc at hy;dsimp only at hy;refine(wpIn_wide (n:=n+1)).1 ?_;gi_wp2;refine hR.mono ?_;have HW9:=Lh HA9.out.lab.lt;clear hR hy hx0 hx1 hx2 hx3 hx4 hx5;rintro e W10 (⟨rfl,M',R',hJ9,hK9,hM9,hR9⟩|⟨rfl,hJx9⟩)
        ·have HA10:=Lh (HA9.out.went hJ9 hK9 hM9 hR9 (fun h=>by have:=h.1;have:=HZ3.out;omega));have HY10:Hid (ABox W10 Sx 34 [.int .i64 x.entry,.bool x.frozen,.slice (some ⟨bv,ov,none⟩) x.vers.length cg,.slice (some ⟨b2,o2,none⟩) x.texts.length cn]∧¬M' Sx):=Lh ⟨(hK9.block Sx (.inr ⟨HSX1.out,HMX.out⟩) HY9.out.lt).trans HY9.out,fun h=>(hM9 _ h).elim HMX.out (fun h=>by have:=HY9.out.lt;omega)⟩;have HO10:Hid (OwnP W10 wz.heap.size 47 (.slice (some ⟨b3,o3,none⟩) ps.length c5) ps (fun b=>wz.heap.size≤b∧¬M' b)):=Lh ((HO9.out.kept (fun i hi hil=>hK9.block i (.inr ⟨by have:=hi.1;have:=HZ3.out;omega,hi.2.1⟩) hil)).mono (fun i hi _=>⟨hi.1,fun h=>(hM9 _ h).elim hi.2.1 (fun h=>by have:=hi.2.2;have:=HX9.out.lt;omega)⟩))
         have HEQ5:Hid ((pre3++[(⟨nn,sn,x.entry,vj,p.body,p.notes,Ab9,cb9,An9,cn9⟩:PV)]).map PV.plain++(QaD x.entry vj nn sn j (ps.drop (q+1))++(QaN m h x.entry (j+1) numE sufE (x.vers.drop (j+1)) (x.texts.drop (j+1))++Qas m h (num0+QaC m h x) (ls.drop (k+1))))=Qaf m h ls):=Lh (by
          rw[List.map_append,List.append_assoc];exact HEQ4.out)
         have HB5:Hid ((0≤nn∧nn≤(pre3++[(⟨nn,sn,x.entry,vj,p.body,p.notes,Ab9,cb9,An9,cn9⟩:PV)]).length)∧(0≤sn∧sn≤(pre3++[(⟨nn,sn,x.entry,vj,p.body,p.notes,Ab9,cb9,An9,cn9⟩:PV)]).length)):=Lh (by
          rw[qA,List.length_singleton];have:=HNB.out;omega)
         clear hJ9 hK9 hM9 hR9 HA9 HY9 HX9 HO9 HPR;gi_wp2;go_wp2_with fail;go_roundw;(case rel=>exact⟨q+1,nn,sn,_,M',R',by omega,by go_num,HA10,HY10,HO10,HEQ5,HB5,HNS4⟩);case measure=>(first|(simp[intOf];done)|(simp[intOf];omega))
        ·gi_wp2;go_wp2_with fail;refine bodyPost_ret (results_none rfl _ _ _) rfl ?_;refine⟨⟨_,rfl⟩,.inr ⟨_,⟨pre3.length+1,?_⟩,hJx9⟩⟩;rw[←HEQ4.out,List.take_append];simp[PV.plain];rw[List.take_of_length_le (by rw[qM];omega)]
      ·have hqe:q=ps.length:=by omega
       have HEQ4:Hid (pre3.map PV.plain++(QaN m h x.entry (j+1) num suf (x.vers.drop (j+1)) (x.texts.drop (j+1))++Qas m h (num0+QaC m h x) (ls.drop (k+1)))=Qaf m h ls):=Lh (by
        have h1:=HEQ.out
        have h2:=HNS.out
        rw[hqe,List.drop_length,QaD,List.nil_append] at h1
        rw[hqe,HNE.out,HSE.out] at h2
        rw[h2.1,h2.2]
        exact h1)
       have HNM4:Hid ((j+1=0→num=num0)∧(0<j+1→num=num0+QaC m h x)):=Lh ⟨fun h=>absurd h (by omega),fun _=>by
        have h2:=HNS.out.1
        rw[hqe] at h2
        by_cases hj0:j=0
        ·rw[if_pos hj0] at h2
         rw[h2,HNM.out.1 hj0,HPLB.out hj0]
        ·rw[if_neg hj0] at h2
         rw[h2];exact HNM.out.2 (by omega)⟩
       clear hqe;go_wp2_with fail;go_roundw;(case rel=>exact⟨j+1,num,suf,pre3,M3,R3,by omega,by go_num,HAI,HYS,HEQ4,HB,HNM4⟩);case measure=>(first|(simp[intOf];done)|(simp[intOf];omega))
    ·have HEQ3:Hid (pre2.map PV.plain++Qas m h numS (ls.drop (k+1))=Qaf m h ls):=Lh (by
      have h1:=HEQ.out
      rw[List.drop_of_length_le (show x.texts.length≤j by omega),QaN,List.nil_append] at h1
      have h2:numS=num0+QaC m h x:=by
       by_cases hj0:j=0
       ·have h3:x.texts=[]:=List.eq_nil_of_length_eq_zero (by omega)
        rw[HNM.out.1 hj0];unfold QaC;rw[h3];simp
       ·exact HNM.out.2 (by omega)
      rw[h2];exact h1)
     go_wp2_with fail;go_roundw;(case rel=>exact⟨k+1,numS,sufS,pre2,M2,R2,by omega,by go_num,HAI,HEQ3,Lh HB.out.1⟩);case measure=>(first|(simp[intOf];done)|(simp[intOf];omega))
  ·have HD:Hid (pre.map PV.plain=Qaf m h ls):=Lh (by
    have:=HEQ.out
    rw[List.drop_of_length_le (by omega),Qas,List.append_nil] at this
    exact this)
   go_wp2_with fail;go_end0;exact⟨⟨_,rfl⟩,.inl ⟨pre,HD.out,M,R,HAI.out.j⟩⟩
end Go.Proofs.YtegaapiocihcpaaDoor
namespace Go.Proofs.YtegaapiocihcpaaDoor
open Go.RowKit Go.Shelf
attribute [local go_sem] Oper.semAt_some
set_option maxRecDepth 100000 in
theorem ball_any (m h:Int)(v:Value)(w:World):Calls Tryd.prog 20 #[.agg #[.int .i64 m,.int .i64 h,v]] w fun e w'=>e=.returned (.func (.func 38) #[] #[.pointer (some ⟨w.heap.size,0,none⟩)])∧w'=w.alloc (.cells #[.int .i64 m,.int .i64 h,v] 25):=by
 go_enter Tryd.func20,Tryd.ntmps20;go_wp2_with fail;go_ret;exact⟨rfl,rfl⟩
structure BookOk (w:World)(m h:Int)(A:Option Addr)(c:Nat)(l:List SectP):Prop where
 t:Laid w
 s:Sl w (fun b=>b<w.heap.size) A c l
 sh:Qdx l
 wf:WfS l
 hI:I64 h
 pn:(Qaf m h l).length≤1000000000
theorem BookOk.to {w w':World}{m h:Int}{A:Option Addr}{c:Nat}{l:List SectP}(H:BookOk w m h A c l)(hb:Below w.heap.size w w'):BookOk w' m h A c l:=⟨H.t.to hb,H.s.to hb,H.sh,H.wf,H.hI,H.pn⟩
theorem tab_lt {w:World}(h:Laid w):0<w.heap.size:=World.block_lt_of_cell? w ⟨_,0,none⟩ (h.cell 0 (by decide))
theorem all_seq (n:Nat)(_hn1:1≤n){m h:Int}{A:Option Addr}{c:Nat}{l:List SectP}{w0:World}(H:BookOk w0 m h A c l){w:World}(hw:w=w0.alloc (.cells #[.int .i64 m,.int .i64 h,.slice A l.length c] 25)):
 SeqIn Fence.wide n Tryd.prog 38 #[.pointer (some ⟨w0.heap.size,0,none⟩)] PV.enc PV.Pr w.heap.size (fun xs=>xs.map PV.plain=Qaf m h l) (fun pre=>∃k,pre.map PV.plain=(Qaf m h l).take k) (Qaf m h l).length w:=by
 intro lp J Jx W hW hJ hY h0;have hba:Below w0.heap.size w0 w:=by rw[hw];exact bR.alloc nL _
 have hsz:w.heap.size=w0.heap.size+1:=by rw[hw];simp
 have hbk:ABox w w0.heap.size 25 [.int .i64 m,.int .i64 h,.slice A l.length c]:=by rw[hw];exact heap_alloc_new w0 _
 have hbW:Below w0.heap.size w0 W:=hba.trans (hW.mono hba.size);refine callsIn_wide.2 (all1_any (n-1) lp w0.heap.size w.heap.size A c l m h J Jx W (H.t.to hbW) (by have:=tab_lt H.t;omega) hW.size (by omega) (hbk.to hW) ((H.s.keep (Kept.all hbW) hbW.size).mono (fun i hi _=>by have:i<w0.heap.size:=hi;omega)) H.sh H.wf H.hI hJ (fun pre M R x W1 PM hj hs hl hp hm=>?_) h0);exact hY pre M R x W1 PM hj hs hl hp hm
theorem Qcg {F:Fence}{nF:Nat}{P:Program}{ops:Array Oper}{rest:List Oper}{o:Oper}{a:Act}{Q:Exit→Act→World→Prop}{w:World}(hgd:o.guard=none)(s x:Operand)(t:TypeId) (ho:o.op=.call {callee:=.builtin .append,args:=#[s,x],argTypes:=#[t,t]}) (v u:Value) (hs:a.eval s=v) (hx:a.eval x=u) (v':Value) (w':World) (hrun:(Builtin.append_ #[t,t] o.type #[v,u]).run P w=.ok v' w') (h:wpListIn F nF P ops Q rest (a.put o.dst v') w'):wpListIn F nF P ops Q (o::rest) a w:=by
 refine wpListIn_plain hgd fun K hK=>?_
 unfold Oper.wpIn;refine⟨by simp[Oper.about,ho,resolve,Target.leads,Sem.run_pure],?_⟩;rw[Oper.semAt_plain F _ _ (by rw[ho];intro c hc';cases hc')];simp[execOp,ho,resolve,invoke,builtin,hs,hx,hrun,Result.andThen];exact hK _ _ h
structure CI (w:World)(Ob base:Nat)(pre:List PV)(M R:Nat→Prop)(W:World)(v:Value):Prop where
 bx:ABox W Ob 30 [v]
 m1:∀g,v.ownBlock=some g→M g
 m2:∀i,M i→v.ownBlock=some i
 own:OwnP W base 47 v (pre.map PV.plain) R
 lt:∀i,R i→i<W.heap.size
 ge:∀i,R i→base+4≤i
 bl:Below base w W
section
variable {w:World} {Ob base:Nat} {pre:List PV} {M R:Nat→Prop} {W W':World} {v:Value}
theorem CI.ks (h:CI w Ob base pre M R W v){n0:Nat}(hb:base≤n0)(hO:Ob<n0)(hw:base≤w.heap.size)(hk:KS (fun i=>i<n0∨R i) W W'):CI w Ob base pre M R W' v:=
 ⟨(hk.block Ob (.inl hO) h.bx.lt).trans h.bx,h.m1,h.m2,h.own.kept (hk.kept.mono fun i hi=>.inr hi),fun i hi=>Nat.lt_of_lt_of_le (h.lt i hi) hk.size,h.ge,h.bl.trans (hk.below (fun i hi=>.inl (by omega)) (Nat.le_trans hw h.bl.size))⟩
end
set_option maxRecDepth 100000 in
theorem appendSeq_any {m h:Int}{A:Option Addr}{c:Nat}{l:List SectP}{w0:World}(H:BookOk w0 m h A c l):
 Calls Tryd.prog 37 #[.slice none 0 0,.func (.func 38) #[] #[.pointer (some ⟨w0.heap.size,0,none⟩)]] (w0.alloc (.cells #[.int .i64 m,.int .i64 h,.slice A l.length c] 25)) fun e W'=>∃v R,e=.returned v∧OwnP W' w0.heap.size 47 v (Qaf m h l) R∧(∀i,R i→w0.heap.size≤i)∧Below w0.heap.size w0 W':=by
 refine(callsIn_wide (n:=3)).1 ?_;refine callsIn_of_wp_marks Tryd.func37 rfl trivial ?_ rfl;simp only[Tryd.ntmps37,List.size_toArray,qC,List.length_nil,Nat.reduceAdd,Nat.reduceSub,Array.replicate_succ,Array.replicate_zero,List.push_toArray,List.append_toArray,List.nil_append,List.cons_append];gi_wp2;obtain⟨wa,hwa⟩:∃wa,w0.alloc (.cells #[.int .i64 m,.int .i64 h,.slice A l.length c] 25)=wa:=⟨_,rfl⟩;have hba:Below w0.heap.size w0 wa:=by rw[←hwa];exact bR.alloc nL _
 have hza:wa.heap.size=w0.heap.size+1:=by rw[←hwa];simp
 have hseq:=all_seq (3-1) (by omega) H hwa.symm;rw[hwa];clear hwa;obtain⟨wb,hwb⟩:∃wb,wa.alloc (.cells #[.slice none 0 0] 30)=wb:=⟨_,rfl⟩;have hbb:Below wa.heap.size wa wb:=by rw[←hwb];exact bR.alloc nL _
 have hzb:wb.heap.size=w0.heap.size+2:=by rw[←hwb];simp;omega
 have hox:ABox wb (w0.heap.size+1) 30 [.slice none 0 0]:=by rw[←hwb,←hza];exact heap_alloc_new wa _
 rw[hwb];clear hwb
 refine Qbq rfl (by omega) (gf:=38) (lb:=#[.pointer (some ⟨w0.heap.size,0,none⟩)]) rfl trivial (enters_of Tryd.func38 (by kernel_rfl) rfl) hseq hbb (by omega) (fun _=>rfl) PV.pr_keep PV.pr_mono (fun pre M R W=>∃v,CI w0 (w0.heap.size+1) w0.heap.size pre M R W v) (fun _ _ _=>False) (fun pre M R X Y ⟨v,hc⟩ hk=>⟨v,hc.ks (n0:=wb.heap.size) (by omega) (by omega) nL hk⟩) (fun c s X Y row hs _ _=>hs) ⟨_,hox,by simp[Value.ownBlock],fun _ h=>h.elim,OwnP.nil _ _ _ _,fun _ h=>h.elim,fun _ h=>h.elim,hba.trans (hbb.mono hba.size)⟩ (fun k x a' W=>∃Bx,k≤Bx∧ABox W Bx 47 [.int .i64 x.num,.int .i64 x.suf,.int .i64 x.entry,.int .i64 x.ver,(.slice x.Aa x.body.length x.ca),(.slice x.Ab x.notes.length x.cb)]∧a'={tmps:=#[.slice none 0 0,.func (.func 38) #[] #[.pointer (some ⟨w0.heap.size,0,none⟩)],.pointer (some ⟨w0.heap.size+1,0,none⟩),undef,.slice none 0 0,.pointer (some ⟨Bx,0,none⟩),.func (.func 38) #[] #[.pointer (some ⟨w0.heap.size,0,none⟩)],.agg #[.int .i64 x.num,.int .i64 x.suf,.int .i64 x.entry,.int .i64 x.ver,(.slice x.Aa x.body.length x.ca),(.slice x.Ab x.notes.length x.cb)],undef,undef,undef,undef,undef],defers:=[]}) (fun k x a' s X Y row ⟨Bx,h1,h2,h3⟩ hg hr=>⟨Bx,h1,(hg.block Bx h2.lt (fun e=>by obtain⟨_,o,ho,hc⟩:=hr Bx e.symm;rw[show X.heap[Bx]? =_ from h2] at ho;cases ho;cases hc)).trans h2,h3⟩) ?assign ?body ?done ?stop
 case assign=>
  intro lp x W K hK;obtain⟨n1,s1,e1,v1,bo,no,Aa,ca,Ab,cb⟩:=x;unfold PV.enc;gi_wp2;exact hK _ _ (bR.alloc nL _) ⟨W.heap.size,Nat.le_refl _,heap_alloc_new W _,rfl⟩
 case body=>
  rintro lp pre M R PM x a' W Wp ⟨v0,hc0⟩ hWp ⟨v,hc⟩ hsz hM hR ⟨Bx,hBx,bX,rfl⟩ hlen hpr hpm;obtain⟨n1,s1,e1,v1,bo,no,Aa,ca,Ab,cb⟩:=x;dsimp only at bX hpr ⊢;have hMlt:∀i,M i→i<Wp.heap.size:=fun i hi=>(hc0.own.lt i (hc0.m2 i hi)).2
  obtain⟨W1,hW1⟩:∃W1,W.alloc (.cells #[.int .i64 n1,.int .i64 s1,.int .i64 e1,.int .i64 v1,.slice Aa bo.length ca,.slice Ab no.length cb] 47)=W1:=⟨_,rfl⟩;have hb1:Below W.heap.size W W1:=(by rw[←hW1];exact bR.alloc nL _);have hz1:W1.heap.size=W.heap.size+1:=by rw[←hW1];simp
  have hB1:W1.heap[W.heap.size]? =some (.cells #[.int .i64 n1,.int .i64 s1,.int .i64 e1,.int .i64 v1,.slice Aa bo.length ca,.slice Ab no.length cb] 47 (0,0)):=(by rw[←hW1];exact heap_alloc_new W _);obtain⟨R2,hR2⟩:∃R2:Nat→Prop,R2=fun i=>R i∨PM i∨i=W.heap.size+1:=⟨_,rfl⟩
  have HO:OwnP W1 w0.heap.size 47 v (pre.map PV.plain) R2:=(hc.own.mono (fun i hi _=>by rw[hR2];exact .inl hi)).below hb1;have hpr1:=PV.pr_keep _ _ _ _ hpr (KS.of_below hb1 _)
  have hsl:Sl W1 (fun b=>b=W.heap.size∨PM b) (some ⟨W.heap.size,0,none⟩) [(⟨⟨n1,s1,e1,v1,bo,no⟩⟩:Av PageP R2)].length [(⟨⟨n1,s1,e1,v1,bo,no⟩⟩:Av PageP R2)]:=Sl.block hB1 (.inl rfl) (by simp[maxLen]) (fun i hi=>by
   obtain rfl:i=0:=by simpa using hi
   exact⟨_,_,rfl,Rep.mono hpr1.1 (fun i hi _=>⟨.inr hi,by rw[hR2];exact .inr (.inl hi)⟩),Rep.mono hpr1.2.1 (fun i hi _=>⟨.inr hi,by rw[hR2];exact .inr (.inl hi)⟩)⟩)
  have hpn:pre.length≤1000000000:=Nat.le_trans (Nat.le_of_lt hlen) H.pn
  obtain⟨v',w',hrun,hown,hgr,hat⟩:=run_cat (P:=Tryd.prog) W1 w0.heap.size 30 30 47 (.agg #[.int .i64 0,.int .i64 0,.int .i64 0,.int .i64 0,.slice none 0 0,.slice none 0 0]) 80 Tryd.underlying30 page_info rfl (show 0<6 by decide) v ((pre.map PV.plain).map Av.mk) HO.own
   (some ⟨W.heap.size,0,none⟩) 1 1 [(⟨⟨n1,s1,e1,v1,bo,no⟩⟩:Av PageP R2)] rfl (fun b=>b=W.heap.size∨PM b) hsl (fun i hi _ e=>by
    have:=hMlt i (hc.m1 i e.symm)
    rcases hi with h|h
    ·omega
    ·exact(hpm i h).2.1 (hc.m1 i e.symm)) (by rw[qM,qM];omega) (by rw[qM,qM];omega) (by have:=hc.bl.size;omega)
  obtain⟨A5,c5,rfl,-,-⟩:=hown.form;have hOM:some (w0.heap.size+1)≠v.ownBlock:=fun e=>by have:=hM _ (hc.m1 _ e.symm);omega
  have hbx1:ABox W1 (w0.heap.size+1) 30 [v]:=hc.bx.to hb1;have hbx2:ABox w' (w0.heap.size+1) 30 [v]:=(hgr.block _ hbx1.lt hOM).trans hbx1;have hv:=hc.bx.cell 0 rfl;have hq:=hbx2.cell 0 rfl;have hf:=hbx2.fz 0;have x0:=bX.cell 0 rfl;have x1:=bX.cell 1 rfl;have x2:=bX.cell 2 rfl;have x3:=bX.cell 3 rfl;have x4:=bX.cell 4 rfl;have x5:=bX.cell 5 rfl;rw[←hW1] at hrun;have HW1:=Lh hW1;have HR2:=Lh hR2;clear hW1 hR2;have HRUN:=Lh hrun;have HC:=Lh hc;clear hrun;gi_wp2_with (gi_at_builtin;refine Qcg rfl (.tmp 8) (.tmp 10) 30 rfl _ _ rfl rfl _ _ HRUN.out ?_);have hlen1:((pre.map PV.plain).map (Av.mk:PageP→Av PageP R2)++[(⟨⟨n1,s1,e1,v1,bo,no⟩⟩:Av PageP R2)]).length=pre.length+1:=(by simp);rw[hlen1] at hown;have hz2:W1.heap.size≤w'.heap.size:=hgr.size
  have hOP:OwnP w' w0.heap.size 47 (.slice A5 (pre.length+1) c5) (pre.map PV.plain++[⟨n1,s1,e1,v1,bo,no⟩]) R2:=HO.pushed hown (fun g hg=>by
   rw[hlen1] at hat
   rcases hat with e|e
   ·exact .inl (e▸hg)
   ·rw[hg] at e;injection e with e;exact .inr e) (by rw[HR2.out];exact .inr (.inr hz1))
  have hR2b:∀i,R2 i→w0.heap.size+4≤i:=fun i hi=>by
   rw[HR2.out] at hi;rcases hi with h|h|h
   ·have:=hR i h;omega
   ·have:=(hpm i h).1;omega
   ·omega
  refine⟨fun i=>(Value.slice A5 (pre.length+1) c5).ownBlock=some i,fun i=>R2 i∧i<w'.heap.size,⟨_,?_,fun _ h=>h,fun _ h=>h,?_,fun i hi=>by simpa using hi.2,fun i hi=>hR2b i hi.1,?_⟩,?_,fun i hi=>?_,fun i hi=>?_⟩
  ·have:=hbx2.set 0 (.slice A5 (pre.length+1) c5);simpa using this
  ·have h1:=(hOP.mono (Q:=fun i=>R2 i∧i<w'.heap.size) (fun i hi hl=>⟨hi,hl⟩)).set (w0.heap.size+1) 0 (.slice A5 (pre.length+1) c5) (fun i hi e=>by have:=hR2b i hi.1;omega);rw[List.map_append];exact h1
  ·exact((HC.out.bl.trans (hb1.mono HC.out.bl.size)).grown hgr (by have:=HC.out.bl.size;omega) (fun k hk=>by have:=hM _ (HC.out.m1 k hk);omega)).setCell (p:=⟨w0.heap.size+1,0,none⟩) (by show w0.heap.size≤w0.heap.size+1;omega) _
  ·exact((KS.of_below hb1 _).trans (KS.grown hgr (fun i e h=>by
    have hm:=HC.out.m1 i e
    rcases h with h|h
    ·have:=hM i hm;omega
    ·exact h.2 hm))).trans (KS.setCell _ _ (fun h=>by
    have h:w0.heap.size+1<wa.heap.size∨(wb.heap.size≤w0.heap.size+1∧¬M (w0.heap.size+1)):=h
    rcases h with h|h
    ·omega
    ·have:=h.1;omega))
  ·have hi:(Value.slice A5 (pre.length+1) c5).ownBlock=some i:=hi;rcases hat with e|e
   ·rw[hlen1] at e;exact .inl (HC.out.m1 i (e▸hi))
   ·rw[hlen1,hi] at e;injection e with e
    have:=hOP.lt i hi;refine .inr ⟨by omega,by simpa using this.2⟩
  ·obtain⟨h1,h2⟩:=hi;rw[HR2.out] at h1;rcases h1 with h|h|h
   ·exact .inl h
   ·exact .inr (.inl ⟨h,by have:=(hpm i h).2.2;omega⟩)
   ·exact .inr (.inr ⟨by omega,by simpa using h2⟩)
 case done=>
  rintro D xs M R W hD hD2 hS ⟨v,hc⟩ hK;have hv:=hc.bx.cell 0 rfl;gi_wp2;refine⟨by simp,.inl ⟨_,_,rfl,run_takeDeferred hK,?_⟩⟩;have hg:=grownBy_putObj' W D (.deferred none);refine⟨_,results_tmp rfl _ _ _,v,R,rfl,?_,fun i hi=>by have:=hc.ge i hi;omega,hc.bl.grown hg (by have:=hc.bl.size;omega) (fun k hk=>by cases hk;omega)⟩;have h1:=hc.own.grown hg (fun i hi e=>by have:=hc.ge i hi;injection e with e;omega);rwa [hS] at h1
 case stop=>
  rintro D c pre W hD _ _ h _;exact h.elim
set_option maxRecDepth 100000 in
theorem collect_any {m h:Int}{A:Option Addr}{c:Nat}{l:List SectP}{w0:World}(H:BookOk w0 m h A c l):
 Calls Tryd.prog 19 #[.func (.func 38) #[] #[.pointer (some ⟨w0.heap.size,0,none⟩)]] (w0.alloc (.cells #[.int .i64 m,.int .i64 h,.slice A l.length c] 25)) fun e W'=>∃v R,e=.returned v∧OwnP W' w0.heap.size 47 v (Qaf m h l) R∧(∀i,R i→w0.heap.size≤i)∧Below w0.heap.size w0 W':=by
 have HA:=Lh (appendSeq_any H);clear H;obtain⟨wa,hwa⟩:∃wa,w0.alloc (.cells #[.int .i64 m,.int .i64 h,.slice A l.length c] 25)=wa:=⟨_,rfl⟩;rw[hwa] at HA ⊢;clear hwa;go_enter Tryd.func19,Tryd.ntmps19
 go_wp2_with (first|(go_at_call 37;refine HA.out.mono ?_;rintro e w2 ⟨v,R,rfl,ho,hR,hb⟩;have HO:=Lh ho;have HR:=Lh hR;have HB:=Lh hb;clear ho hR hb)|fail)
 go_ret;exact⟨_,R,rfl,HO.out,HR.out,HB.out⟩
set_option maxRecDepth 100000 in
theorem pages_any {m h:Int}{A:Option Addr}{c:Nat}{l:List SectP}{w:World}(H:BookOk w m h A c l):
 Calls Tryd.prog 7 #[.agg #[.int .i64 m,.int .i64 h,.slice A l.length c]] w fun e W'=>∃v R,e=.returned v∧OwnP W' w.heap.size 47 v (Qaf m h l) R∧(∀i,R i→w.heap.size≤i)∧Below w.heap.size w W':=by
 obtain⟨wb,hwb⟩:∃wb,w.alloc (.cells #[.int .i64 m,.int .i64 h,.slice A l.length c] 25)=wb:=⟨_,rfl⟩;have hba:Below w.heap.size w wb:=by rw[←hwb];exact bR.alloc nL _
 have hz:w.heap.size≤wb.heap.size:=hba.size;have hx0:ABox wb w.heap.size 25 [.int .i64 m,.int .i64 h,.slice A l.length c]:=by rw[←hwb];exact heap_alloc_new w _
 have HC:=Lh (collect_any (H.to hba));have HA:=Lh (ball_any m h (.slice A l.length c) wb);have c0:=hx0.cell 0 rfl;have c1:=hx0.cell 1 rfl;have c2:=hx0.cell 2 rfl;have HB:=Lh hba;clear H hba hx0;go_enter Tryd.func7,Tryd.ntmps7
 go_wp2_with (first|(go_at_call 20;refine HA.out.mono ?_;rintro e w2 ⟨rfl,rfl⟩)|(go_at_call 19;refine HC.out.mono ?_;rintro e w3 ⟨v,R,rfl,ho,hR,hb⟩;have HO:=Lh ho;have HR:=Lh hR;have HB3:=Lh (HB.out.trans (hb.mono hz));clear ho hR hb)|fail)
 go_ret;exact⟨_,R,rfl,⟨HO.out.own.re hz,HO.out.at_⟩,fun i hi=>Nat.le_trans hz (HR.out i hi),HB3.out⟩
end Go.Proofs.YtegaapiocihcpaaDoor
namespace Go.Proofs.YtegaapiocihcpaaDoor
open Go.RowKit
theorem abox3 {w:World}{P:Nat}{t:TypeId}{a b c:Value}(h:ABox w P t [a,b,c])(x y z:Value):ABox (((w.setCell ⟨P,0,none⟩ x).setCell ⟨P,1,none⟩ y).setCell ⟨P,2,none⟩ z) P t [x,y,z]:=by simpa using((h.set 0 x).set 1 y).set 2 z
theorem below3 {B P:Nat}{a w:World}(h:Below B a w)(hP:B≤P)(x y z:Value):Below B a (((w.setCell ⟨P,0,none⟩ x).setCell ⟨P,1,none⟩ y).setCell ⟨P,2,none⟩ z):=
 ((h.setCell (p:=⟨P,0,none⟩) hP x).setCell (p:=⟨P,1,none⟩) hP y).setCell (p:=⟨P,2,none⟩) hP z






structure CK (W:World)(g:Nat)(rows:List SC)(l:List SectP)(k:Nat)(s:SectP)(v1 v2:Value):Prop where
 own:Own W g 34 (.slice (some ⟨g,0,none⟩) l.length l.length) rows
 len:rows.length=l.length
 row:rows[k]? =some ⟨s.entry,s.frozen,v1,v2⟩
 sec:l[k]? =some s
 f:∀i (h1:i<rows.length) (h2:i<l.length),rows[i].e=l[i].entry∧rows[i].f=l[i].frozen∧I64 l[i].entry
 o:∀i (h1:i<rows.length) (h2:i<l.length),i≠k→Rep.R W (Off g v1) [rows[i].v1] l[i].vers∧Rep.R W (Off g v1) [rows[i].v2] l[i].texts
 ko:Own W (g+1) 3 v1 s.vers
 kt:Rep.R W (Off g v1) [v2] s.texts
 kc:∃A,v2=.slice A s.texts.length s.texts.length
section
variable {W W':World} {g k:Nat} {rows:List SC} {l:List SectP} {s:SectP} {v1 v2:Value}
end
end Go.Proofs.YtegaapiocihcpaaDoor
namespace Go.Proofs.YtegaapiocihcpaaDoor
open Go.RowKit Go.Shelf
theorem Qbm:(Tryd.prog.info? 49).map (fun i=>(i.zero,i.size,i.bytes))=some (some (.agg #[.int .i64 0,.int .i64 0,.slice none 0 0,.slice none 0 0]),Rep.size LineP,64):=by kernel_rfl
theorem grow_nilL (n:Nat)(w:World)(hn:n≤4194304):
 Calls Tryd.prog 62 #[.slice none 0 0,.int .i64 (n:Int)] w fun e w'=>∃v,e=.returned v∧Own w' w.heap.size 49 v ([]:List LineP)∧Below w.heap.size w w':=by
 by_cases h0:n=0
 ·subst h0;exact(Any8.slices_Grow_room growL none 0 0 0 w (by omega) (by omega) (by omega) (by omega)).mono fun e w' ⟨he,hw⟩=>⟨_,he,Own.nil _ _ _,by rw[hw];exact Below.refl _ _⟩
 ·obtain⟨i,hi,hz,hz1,hz2⟩:=info_parts Qbm;have h1:=grownCap_ge w (0+n) 0 (QdG.t 25);have h2:=grownCap_le_maxLen w (0+n) 0 (QdG.t 25) (by unfold maxLen;omega);refine(Any8.slices_Grow_grow growL i (.agg #[.int .i64 0,.int .i64 0,.slice none 0 0,.slice none 0 0]) hi hz (by rw[hz1];decide) none 0 0 n [] w (by omega) (by omega) (by rw[hz2];omega) (by omega) (by simp) (fun _=>rfl) (fun a h=>by cases h)).mono ?_;rintro e w' ⟨he,rfl⟩;refine⟨_,he,⟨[],⟨by simp,.inr ⟨w.heap.size,_,_,rfl,Nat.le_refl _,heap_alloc_new w.drew _,by simp,h2,?_,by simp⟩⟩,by simp,fun i h=>absurd h (by simp)⟩,?_⟩
  ·have e:(Value.agg #[.int .i64 0,.int .i64 0,.slice none 0 0,.slice none 0 0]).cells.size=4:=rfl;simp only[Array.size_append,size_zeroCells,e];show 0+(0+n-0)*4+(_-(0+n))*4=_*4;omega
  ·exact(bR.drew).alloc nL _
theorem concatL_any (Q:Nat)(A B:Option Addr)(c d:Nat)(a b:List LineP)(w:World)(h0:w.cell? ⟨Q,0,none⟩=some (.slice A a.length c))(h1:w.cell? ⟨Q,1,none⟩=some (.slice B b.length d)) (ha:Sl w (fun b=>b<w.heap.size) A c a) (hb:Sl w (fun b=>b<w.heap.size) B d b) (hla:a.length≤1048576) (hlb:b.length≤1048576):
 Calls Tryd.prog 44 #[.slice (some ⟨Q,0,none⟩) 2 2] w fun e w'=>∃v,e=.returned v∧Own w' w.heap.size 49 v (a++b)∧Below w.heap.size w w':=by
 have Ha:=Lh ha;have Hb:=Lh hb;have H0:=Lh h0;have H1:=Lh h1;have hQ:=World.block_lt_of_cell? w _ h0;clear ha hb;go_enter Tryd.func44,Tryd.ntmps44;go_wp2_with fail;go_loop [3,5,11] (fun n _ i=>∃k:Nat,k≤2∧i=.int .i64 k∧n=.int .i64 ((QbR a b k).length:Int)) (fun _ _ i=>2-(intOf i).toNat);(case atStart=>exact⟨0,by omega,rfl,rfl⟩);case round=>
  obtain⟨k,hk,rfl,rfl⟩:=hrel;rcases(show k=0∨k=1∨k=2 by omega) with rfl|rfl|rfl
  ·have e:(QbR a b 0).length=0:=rfl;rw[e];clear e;go_wp2_with fail;go_round;(case rel=>exact⟨1,by omega,rfl,by simp[QbR]⟩);case measure=>simp[intOf]
  ·have e:(QbR a b 1).length=a.length:=rfl;rw[e];clear e;go_wp2_with fail;go_round;(case rel=>exact⟨2,by omega,rfl,by simp[QbR]⟩);case measure=>simp[intOf]
  ·have e:(QbR a b 2).length=a.length+b.length:=by simp[QbR]
   rw[e];clear e h0 h1;go_wp2_with fail;refine(grow_nilL (a.length+b.length) w (by omega)).mono ?_;rintro e wG ⟨v,rfl,hownG,hbG⟩;have HbG:=Lh hbG;have HoG:=Lh hownG;clear hbG hownG;go_wp2_with fail;go_loopw [6,8,27] (fun v _ i wr=>∃k:Nat,k≤2∧i=.int .i64 k∧Own wr w.heap.size 49 v (QbR a b k)∧Below w.heap.size w wr) (fun _ _ i _=>2-(intOf i).toNat);(case atStart=>exact⟨0,by omega,rfl,HoG.out,HbG.out⟩);case round=>
    obtain⟨k,hk,rfl,hown,hb3⟩:=hrel;rcases(show k=0∨k=1∨k=2 by omega) with rfl|rfl|rfl
    ·have hown:Own wr w.heap.size 49 _ ([]:List LineP):=hown;obtain⟨A2,c2,rfl,_⟩:=hown.sl;have hc:=(hb3.cell (p:=⟨Q,0,none⟩) hQ).trans H0.out;have hz3:=hb3.size;go_wp2_with (at_builtin;refine QaF (α:=LineP) _ rfl (.tmp 31) (.tmp 32) 42 rfl w.heap.size 49 (.agg #[.int .i64 0,.int .i64 0,.slice none 0 0,.slice none 0 0]) 64 Tryd.underlying42 Qbm rfl (by decide) _ [] rfl hown A c a.length a rfl rfl (fun b=>b<w.heap.size) (Ha.out.keep (Kept.all hb3) hz3) (by intro i (hi:i<w.heap.size) _ e;have:=(hown.lt i e.symm).1;omega) (by first|omega|(simp;done)|(simp;omega)) (by first|omega|(simp;done)|(simp;omega)) (by first|omega|(simp;done)|(simp;omega)) ?_;intro v2 w2 hown2 hg2 hat2);go_roundw;(case rel=>exact⟨1,by omega,rfl,by rw[List.nil_append] at hown2;exact hown2,QaE hb3 hown hz3 hg2⟩);case measure=>simp[intOf]
    ·have hown:Own wr w.heap.size 49 _ (a:List LineP):=hown;obtain⟨A2,c2,rfl,_⟩:=hown.sl;have hc:=(hb3.cell (p:=⟨Q,1,none⟩) hQ).trans H1.out;have hz3:=hb3.size;go_wp2_with (at_builtin;refine QaF (α:=LineP) _ rfl (.tmp 31) (.tmp 32) 42 rfl w.heap.size 49 (.agg #[.int .i64 0,.int .i64 0,.slice none 0 0,.slice none 0 0]) 64 Tryd.underlying42 Qbm rfl (by decide) _ a rfl hown B d b.length b rfl rfl (fun b=>b<w.heap.size) (Hb.out.keep (Kept.all hb3) hz3) (by intro i (hi:i<w.heap.size) _ e;have:=(hown.lt i e.symm).1;omega) (by first|omega|(simp;done)|(simp;omega)) (by first|omega|(simp;done)|(simp;omega)) (by first|omega|(simp;done)|(simp;omega)) ?_;intro v2 w2 hown2 hg2 hat2);go_roundw;(case rel=>exact⟨2,by omega,rfl,hown2,QaE hb3 hown hz3 hg2⟩);case measure=>simp[intOf]
    ·go_wp2_with fail;go_ret;exact⟨_,rfl,hown,hb3⟩
end Go.Proofs.YtegaapiocihcpaaDoor
namespace Go.Proofs.YtegaapiocihcpaaDoor
open Go.RowKit Go.Shelf
attribute [local go_sem] Oper.semAt_some
def QcO (ls:List LineP)(wd:Int):Option Nat:=ls.findIdx? (fun x=>decide (x.fr≤wd∧wd<x.un))
def Qal (entry ver wd:Int):List PageP→Option (Int × Int × Nat)
 |[]=>none
 |p::ps=>match (if p.entry=entry∧p.ver=ver then QcO (p.body++p.notes) wd else none) with
  |some i=>some (p.num,p.suf,i+1)
  |none=>Qal entry ver wd ps
theorem lineP_none {ls:List LineP}{wd:Int}(h:∀j (hj:j<ls.length),¬(ls[j].fr≤wd∧wd<ls[j].un)):QcO ls wd=none:=by
 unfold QcO;rw[List.findIdx?_eq_none_iff];intro x hx;obtain⟨j,hj,rfl⟩:=List.getElem_of_mem hx;exact decide_eq_false (h j hj)
theorem lineP_hit {ls:List LineP}{wd:Int}{k:Nat}(hk:k<ls.length)(h:ls[k].fr≤wd∧wd<ls[k].un)(hn:∀j (hj:j<ls.length),j<k→¬(ls[j].fr≤wd∧wd<ls[j].un)):QcO ls wd=some k:=by
 unfold QcO;rw[List.findIdx?_eq_some_iff_getElem];exact⟨hk,decide_eq_true h,fun j hj=>by rw[decide_eq_true_iff];exact hn j (by omega) hj⟩
theorem QaT {entry ver wd:Int}:∀(l m:List PageP),Qal entry ver wd (l++m)=(Qal entry ver wd l).or (Qal entry ver wd m)
 |[],_=>rfl
 |p::ps,m=>by
  rw[List.cons_append,Qal,Qal];split
  ·rfl
  ·exact QaT ps m
def whereV:Option (Int × Int × Nat)→Value
 |none=>.tuple #[.agg #[.int .i64 0,.int .i64 0],.int .i64 0,.bool false]
 |some (n,s,i)=>.tuple #[.agg #[.int .i64 n,.int .i64 s],.int .i64 (i:Int),.bool true]
theorem Qbz {P:Program}{w:World}{g:Nat}{ty:TypeId}{v:Value}(ha:∀w,(isAgg ty).run P w=.ok false w)(hc:w.cell? ⟨g,0,none⟩=some v):(loadVar ty ⟨g,0,none⟩).run P w=.ok v w:=by
 simp[loadVar,ha,hc]
theorem Qbl {P:Program}{fn:Func}{p q r:Tmp}{ty t1 t2:TypeId}(h:fn.results=#[.cell p ty,.cell q t1,.cell r t2])(tmps:Array Value)(w:World)(g g1 g2:Nat)(t:TypeId)(cs:Array Value)(fr:Nat × Nat)(d:TypeDesc)(u1 u2:Value) (hp:tmps.getD p undef=.pointer (some ⟨g,0,none⟩)) (hq:tmps.getD q undef=.pointer (some ⟨g1,0,none⟩)) (hr:tmps.getD r undef=.pointer (some ⟨g2,0,none⟩)) (hg:w.heap[g]? =some (.cells cs t fr)) (h1:w.cell? ⟨g1,0,none⟩=some u1) (h2:w.cell? ⟨g2,0,none⟩=some u2) (hu:P.underlying ty=some d) (hd:(match d with|.struct _|.array _ _=>true|_=>false)=true) (hi:(P.info? ty).map (·.size)=some cs.size) (ha1:∀w,(isAgg t1).run P w=.ok false w) (ha2:∀w,(isAgg t2).run P w=.ok false w):
 (results fn tmps).run P w=.ok (.tuple #[.agg cs,u1,u2]) w:=by
 have hp':tmps[p]?.getD undef=.pointer (some ⟨g,0,none⟩):=by simpa using hp
 have hq':tmps[q]?.getD undef=.pointer (some ⟨g1,0,none⟩):=by simpa using hq
 have hr':tmps[r]?.getD undef=.pointer (some ⟨g2,0,none⟩):=by simpa using hr
 simp[results,h,hp',hq',hr',asAddr,run_loadVar_row w g t ty cs fr d hg hu hd hi,Qbz ha1 h1,Qbz ha2 h2]
structure WI (n:Nat)(w:World)(en ve wd rn rs ri:Int)(rb:Bool)(W:World):Prop where
 x1:ABox W (n+1) 3 [.int .i64 en]
 x2:ABox W (n+1+1) 3 [.int .i64 ve]
 x3:ABox W (n+1+1+1) 3 [.int .i64 wd]
 x4:ABox W (n+1+1+1+1) 45 [.int .i64 rn,.int .i64 rs]
 x5:ABox W (n+1+1+1+1+1) 3 [.int .i64 ri]
 x6:ABox W (n+1+1+1+1+1+1) 4 [.bool rb]
 bl:Below n w W
section
variable {n:Nat} {w:World} {en ve wd rn rs ri:Int} {rb:Bool} {W W':World}
theorem WI.keep (h:WI n w en ve wd rn rs ri rb W)(hb:∀i,n≤i→i<n+7→W'.heap[i]? =W.heap[i]?)(hl:Below n w W'):WI n w en ve wd rn rs ri rb W':=
 ⟨(hb _ (by omega) (by omega)).trans h.x1,(hb _ (by omega) (by omega)).trans h.x2,(hb _ (by omega) (by omega)).trans h.x3,(hb _ (by omega) (by omega)).trans h.x4,(hb _ (by omega) (by omega)).trans h.x5,(hb _ (by omega) (by omega)).trans h.x6,hl⟩
theorem WI.lt (h:WI n w en ve wd rn rs ri rb W):n+7≤W.heap.size:=by have:=h.x6.lt;omega
theorem WI.to (h:WI n w en ve wd rn rs ri rb W)(hb:Below W.heap.size W W'):WI n w en ve wd rn rs ri rb W':=
 h.keep (fun i _ hi=>hb.block i (by have:=h.lt;omega)) (h.bl.trans (hb.mono (by have:=h.lt;omega)))
theorem WI.ks (h:WI n w en ve wd rn rs ri rb W){N:Nat}{R:Nat→Prop}(hN:n+7≤N)(hk:KS (fun i=>i<N∨R i) W W'):WI n w en ve wd rn rs ri rb W':=
 h.keep (fun i _ hi=>hk.block i (.inl (by omega)) (by have:=h.lt;omega)) (h.bl.trans (hk.below (fun i hi=>.inl (by omega)) (by have:=h.lt;omega)))
theorem WI.grown (h:WI n w en ve wd rn rs ri rb W){row:Option Nat}(hg:W.grownBy W' row)(hr:∀r,row=some r→n+7≤r):WI n w en ve wd rn rs ri rb W':=
 h.keep (fun i _ hi=>hg.block i (by have:=h.lt;omega) (fun e=>by have:=hr _ e.symm;omega)) (h.bl.grown hg (by have:=h.lt;omega) (fun k hk=>by have:=hr _ hk;omega))
theorem WI.found (h:WI n w en ve wd rn rs ri rb W)(a b c:Int)(d:Bool):WI n w en ve wd a b c d ((((W.setCell ⟨n+1+1+1+1,0,none⟩ (.int .i64 a)).setCell ⟨n+1+1+1+1,1,none⟩ (.int .i64 b)).setCell ⟨n+1+1+1+1+1,0,none⟩ (.int .i64 c)).setCell ⟨n+1+1+1+1+1+1,0,none⟩ (.bool d)):=by
 refine⟨?_,?_,?_,?_,?_,?_,?_⟩
 ·exact(((h.x1.other (by omega) _ _).other (by omega) _ _).other (by omega) _ _).other (by omega) _ _
 ·exact(((h.x2.other (by omega) _ _).other (by omega) _ _).other (by omega) _ _).other (by omega) _ _
 ·exact(((h.x3.other (by omega) _ _).other (by omega) _ _).other (by omega) _ _).other (by omega) _ _
 ·have:=(((h.x4.set 0 (.int .i64 a)).set 1 (.int .i64 b)).other (Q:=n+1+1+1+1+1) (by omega) 0 (.int .i64 c)).other (Q:=n+1+1+1+1+1+1) (by omega) 0 (.bool d);simpa using this
 ·have:=(((h.x5.other (Q:=n+1+1+1+1) (by omega) 0 (.int .i64 a)).other (Q:=n+1+1+1+1) (by omega) 1 (.int .i64 b)).set 0 (.int .i64 c)).other (Q:=n+1+1+1+1+1+1) (by omega) 0 (.bool d);simpa using this
 ·have:=(((h.x6.other (Q:=n+1+1+1+1) (by omega) 0 (.int .i64 a)).other (Q:=n+1+1+1+1) (by omega) 1 (.int .i64 b)).other (Q:=n+1+1+1+1+1) (by omega) 0 (.int .i64 c)).set 0 (.bool d);simpa using this
 ·exact(((h.bl.setCell (p:=⟨n+1+1+1+1,0,none⟩) (by show n≤n+1+1+1+1;omega) _).setCell (p:=⟨n+1+1+1+1,1,none⟩) (by show n≤n+1+1+1+1;omega) _).setCell (p:=⟨n+1+1+1+1+1,0,none⟩) (by show n≤n+1+1+1+1+1;omega) _).setCell (p:=⟨n+1+1+1+1+1+1,0,none⟩) (by show n≤n+1+1+1+1+1+1;omega) _
end
set_option maxRecDepth 100000 in
theorem where_any {m h:Int}{A:Option Addr}{c:Nat}{l:List SectP}{w:World}(H:BookOk w m h A c l)(entry ver wd:Int):
 Calls Tryd.prog 27 #[.agg #[.int .i64 m,.int .i64 h,.slice A l.length c],.int .i64 entry,.int .i64 ver,.int .i64 wd] w fun e W'=>e=.returned (whereV (Qal entry ver wd (Qaf m h l)))∧Below w.heap.size w W':=by
 refine(callsIn_wide (n:=4)).1 ?_;refine callsIn_of_wp_marks Tryd.func27 rfl trivial ?_ rfl;simp only[Tryd.ntmps27,List.size_toArray,qC,List.length_nil,Nat.reduceAdd,Nat.reduceSub,Array.replicate_succ,Array.replicate_zero,List.push_toArray,List.append_toArray,List.nil_append,List.cons_append];obtain⟨wb,hwb⟩:∃wb,((((((w.alloc (.cells #[.int .i64 m,.int .i64 h,.slice A l.length c] 25)).alloc (.cells #[.int .i64 entry] 3)).alloc (.cells #[.int .i64 ver] 3)).alloc (.cells #[.int .i64 wd] 3)).alloc (.cells #[.int .i64 0,.int .i64 0] 45)).alloc (.cells #[.int .i64 0] 3)).alloc (.cells #[.bool false] 4)=wb:=⟨_,rfl⟩;have hba:Below w.heap.size w wb:=by rw[←hwb];exact(((((((bR.alloc nL _).alloc (by simp) _).alloc (by simp;omega) _).alloc (by simp;omega) _).alloc (by simp;omega) _).alloc (by simp;omega) _).alloc (by simp;omega) _)
 have hz:wb.heap.size=w.heap.size+7:=by rw[←hwb];simp
 have hx0:ABox wb w.heap.size 25 [.int .i64 m,.int .i64 h,.slice A l.length c]:=by rw[←hwb];repeat(first|exact QaU (by simp;done)|refine(Below.heap_alloc _ _ _ (by simp;try omega)).trans ?_)
 have hx1:ABox wb (w.heap.size+1) 3 [.int .i64 entry]:=by rw[←hwb];repeat(first|exact QaU (by simp;done)|refine(Below.heap_alloc _ _ _ (by simp;try omega)).trans ?_)
 have hx2:ABox wb (w.heap.size+1+1) 3 [.int .i64 ver]:=by rw[←hwb];repeat(first|exact QaU (by simp;done)|refine(Below.heap_alloc _ _ _ (by simp;try omega)).trans ?_)
 have hx3:ABox wb (w.heap.size+1+1+1) 3 [.int .i64 wd]:=by rw[←hwb];repeat(first|exact QaU (by simp;done)|refine(Below.heap_alloc _ _ _ (by simp;try omega)).trans ?_)
 have hx4:ABox wb (w.heap.size+1+1+1+1) 45 [.int .i64 0,.int .i64 0]:=by rw[←hwb];repeat(first|exact QaU (by simp;done)|refine(Below.heap_alloc _ _ _ (by simp;try omega)).trans ?_)
 have hx5:ABox wb (w.heap.size+1+1+1+1+1) 3 [.int .i64 0]:=by rw[←hwb];repeat(first|exact QaU (by simp;done)|refine(Below.heap_alloc _ _ _ (by simp;try omega)).trans ?_)
 have hx6:ABox wb (w.heap.size+1+1+1+1+1+1) 4 [.bool false]:=by rw[←hwb];repeat(first|exact QaU (by simp;done)|refine(Below.heap_alloc _ _ _ (by simp;try omega)).trans ?_)
 have k0:=hx0.cell 0 rfl;have k1:=hx0.cell 1 rfl;have k2:=hx0.cell 2 rfl;have HWB:=Lh hwb;gi_upto_region 1 with(fail)
 (try rw[HWB.out]);have hbo:=H.to hba;have HX0:=Lh hx0;have HX1:=Lh hx1;have HX2:=Lh hx2;have HX3:=Lh hx3;have HX4:=Lh hx4;have HX5:=Lh hx5;have HX6:=Lh hx6;have HB:=Lh hba;have HZ:=Lh hz;clear hx0 hx1 hx2 hx3 hx4 hx5 hx6 hba hz hwb H;gi_wp2;refine⟨trivial,CallsIn.mono (callsIn_wide.2 (ball_any m h (.slice A l.length c) wb)) ?_⟩;rintro e w1 ⟨rfl,rfl⟩;gi_wp2;have HX0w:Hid (WI w.heap.size w entry ver wd 0 0 0 false wb):=Lh ⟨HX1.out,HX2.out,HX3.out,HX4.out,HX5.out,HX6.out,HB.out⟩;obtain⟨wa,hwa⟩:∃wa,wb.alloc (.cells #[.int .i64 m,.int .i64 h,.slice A l.length c] 25)=wa:=⟨_,rfl⟩;have hbw:Below wb.heap.size wb wa:=by rw[←hwa];exact bR.alloc nL _
 have hza:wa.heap.size=w.heap.size+8:=by rw[←hwa];simp;exact HZ.out
 have hseq:=all_seq (4-1) (by omega) hbo hwa.symm;have HWI:=Lh (HX0w.out.to hbw);rw[hwa];clear hwa HX0 HX1 HX2 HX3 HX4 HX5 HX6 HB HX0w HWB hbo k0 k1 k2
 refine Qbq rfl (by omega) (gf:=38) (lb:=#[.pointer (some ⟨wb.heap.size,0,none⟩)]) rfl trivial (enters_of Tryd.func38 (by kernel_rfl) rfl) hseq bR nL (fun _=>rfl) PV.pr_keep PV.pr_mono (fun pre M R W=>WI w.heap.size w entry ver wd 0 0 0 false W∧Qal entry ver wd (pre.map PV.plain)=none) (fun c pre W=>c=.ret∧∃n s,∃i:Nat,Qal entry ver wd (pre.map PV.plain)=some (n,s,i)∧WI w.heap.size w entry ver wd n s (i:Int) true W) (fun pre M R X Y hc hk=>⟨hc.1.ks (by omega) hk,hc.2⟩) (fun c s X Y row hs hg hr=>⟨hs.1,by obtain⟨n,s',i,h1,h2⟩:=hs.2;exact⟨n,s',i,h1,h2.grown hg (fun r e=>by have:=(hr r e).1;omega)⟩⟩) ⟨HWI.out,rfl⟩ (fun k x a' W=>∃Bx,k≤Bx∧ABox W Bx 47 [.int .i64 x.num,.int .i64 x.suf,.int .i64 x.entry,.int .i64 x.ver,(.slice x.Aa x.body.length x.ca),(.slice x.Ab x.notes.length x.cb)]∧a'={tmps:=#[.agg #[.int .i64 m,.int .i64 h,.slice A l.length c],.int .i64 entry,.int .i64 ver,.int .i64 wd,.pointer (some ⟨w.heap.size,0,none⟩),.pointer (some ⟨w.heap.size+1,0,none⟩),.pointer (some ⟨w.heap.size+1+1,0,none⟩),.pointer (some ⟨w.heap.size+1+1+1,0,none⟩),.pointer (some ⟨w.heap.size+1+1+1+1,0,none⟩),.pointer (some ⟨w.heap.size+1+1+1+1+1,0,none⟩),.pointer (some ⟨w.heap.size+1+1+1+1+1+1,0,none⟩),.pointer (some ⟨Bx,0,none⟩),undef,undef,.agg #[.int .i64 m,.int .i64 h,.slice A l.length c],.func (.func 38) #[] #[.pointer (some ⟨wb.heap.size,0,none⟩)],.agg #[.int .i64 x.num,.int .i64 x.suf,.int .i64 x.entry,.int .i64 x.ver,.slice x.Aa x.body.length x.ca,.slice x.Ab x.notes.length x.cb],undef,undef,undef,undef,undef,undef,undef,undef,undef,undef,undef,undef,undef,undef,undef,undef,undef,undef,undef,undef,undef,undef,undef,undef,undef,undef,undef,undef,undef,undef,undef,undef,undef,undef,undef,undef,undef,undef],defers:=[]}) (fun k x a' s X Y row ⟨Bx,h1,h2,h3⟩ hg hr=>⟨Bx,h1,(hg.block Bx h2.lt (fun e=>by obtain⟨_,o,ho,hc⟩:=hr Bx e.symm;rw[show X.heap[Bx]? =_ from h2] at ho;cases ho;cases hc)).trans h2,h3⟩) ?assign ?body ?done ?stop
 case assign=>
  intro lp x W K hK;obtain⟨n1,s1,e1,v1,bo,no,Aa,ca,Ab,cb⟩:=x;unfold PV.enc;gi_wp2;exact hK _ _ (bR.alloc nL _) ⟨W.heap.size,Nat.le_refl _,heap_alloc_new W _,rfl⟩
 case body=>
  rintro lp pre M R PM x a' W Wp ⟨-,hw0⟩ hWp ⟨hwi,-⟩ hsz hM hR ⟨Bx,hBx,bX,rfl⟩ hlen hpr hpm;obtain⟨n1,s1,e1,v1,bo,no,Aa,ca,Ab,cb⟩:=x;dsimp only at bX hpr ⊢;have x2:=bX.cell 2 rfl;have x3:=bX.cell 3 rfl;have y1:=hwi.x1.cell 0 rfl;have y2:=hwi.x2.cell 0 rfl;have HW0:=Lh hw0;have HWI:=Lh hwi;have HBX:=Lh bX;have HPR:=Lh hpr;have HPM:=Lh hpm;have HM:=Lh hM;have HR:=Lh hR;clear hw0 hwi bX hpr hpm hM hR;by_cases he:e1=entry∧v1=ver
  ·obtain⟨he1,he2⟩:=he;subst he1 he2;gi_upto_region 4 with(fail)
   clear x2 x3 y1 y2;have x4:=HBX.out.cell 4 rfl;have x5:=HBX.out.cell 5 rfl;obtain⟨W1,hW1⟩:∃W1,W.alloc (.cells #[.slice Aa bo.length ca,.slice Ab no.length cb] 42)=W1:=⟨_,rfl⟩;have hb1:Below W.heap.size W W1:=(by rw[←hW1];exact bR.alloc nL _);have hQ:ABox W1 W.heap.size 42 [.slice Aa bo.length ca,.slice Ab no.length cb]:=(by rw[←hW1];exact heap_alloc_new W _);have hp1:=PV.pr_keep _ _ _ _ HPR.out (KS.of_below hb1 _);obtain⟨Ax,cx,ex,hsa,-⟩:=hp1.1;cases ex;obtain⟨Ay,cy,ey,hsb,-⟩:=hp1.2.1;cases ey;have hsm:SmallP ⟨n1,s1,e1,v1,bo,no⟩:=hp1.2.2;have HCC:=Lh (concatL_any W.heap.size Aa Ab ca cb bo no W1 (hQ.cell 0 rfl) (hQ.cell 1 rfl) (hsa.mono fun i _ h=>h) (hsb.mono fun i _ h=>h) hsm.1 hsm.2);clear hQ hp1 hsa hsb hsm;gi_wp2;(try rw[hW1]);refine⟨trivial,CallsIn.mono ((callsIn_wide.2 HCC.out).inRound lp) ?_⟩;rintro e W2 ⟨v2,rfl,ho2,hb2⟩;obtain⟨A2,c2,rfl,hs2⟩:=ho2.sl;have HSM:Hid ((bo++no).length≤2097152):=Lh (by rw[qA];have:=HPR.out.2.2.1;have:=HPR.out.2.2.2;dsimp only[PV.plain] at *;omega);have HS2:=Lh hs2;have HB2:Hid (Below W.heap.size W W2):=Lh (hb1.trans (hb2.mono hb1.size));have HWI2:=Lh (HWI.out.to HB2.out);have HBX2:=Lh (HBX.out.to HB2.out);clear hs2 hb2 hb1 ho2 x4 x5;obtain⟨ls,hls⟩:∃ls,bo++no=ls:=⟨_,rfl⟩;have HLS:=Lh hls;rw[hls] at HSM HS2 ⊢;obtain⟨n,hn⟩:∃n,ls.length=n:=⟨_,rfl⟩;have hn63:n≤2097152:=(by rw[←hn];exact HSM.out);have HN:=Lh hn;rw[hn];clear hls hn;gi_upto_region 5 with(fail)
   gi_loopw [34] (fun i wr=>∃k:Nat,k≤n∧i=.int .i64 k∧Below W2.heap.size W2 wr∧∀j (hj:j<ls.length),j<k→¬(ls[j].fr≤wd∧wd<ls[j].un)) (fun i _=>n-(intOf i).toNat);(case atStart=>exact⟨0,by omega,rfl,Below.refl _ _,fun j _ h=>absurd h (Nat.not_lt_zero _)⟩);case round=>
    obtain⟨k,hk,rfl,hbl,hno⟩:=hrel;by_cases hlt:k<n
    ·have hkl:k<ls.length:=by rw[HN.out];exact hlt
     have hsr:=HS2.out.keep (Kept.all hbl) hbl.size;obtain⟨b,o,Ag,cg,An,cn,rfl,hb0,hbl0,e0,e1',e2,e3,-,-⟩:=Qcr hsr hkl;obtain⟨y,hy⟩:∃y,ls[k]=y:=⟨_,rfl⟩;rw[hy] at e0 e1' e2 e3;have HY:=Lh hy;have HBL:=Lh hbl;have HNO:=Lh hno;clear hsr hbl hno hy hb0;have HWI3:=Lh (HWI2.out.to HBL.out);have HBX3:=Lh (HBX2.out.to HBL.out);gi_upto_region 7 with(fail)
     obtain⟨W3,hW3⟩:∃W3,wr.alloc (.cells #[.int .i64 y.fr,.int .i64 y.un,.slice Ag y.gaps.length cg,.slice An y.notes.length cn] 49)=W3:=⟨_,rfl⟩;have hb3:Below wr.heap.size wr W3:=(by rw[←hW3];exact bR.alloc nL _);have hX:ABox W3 wr.heap.size 49 [.int .i64 y.fr,.int .i64 y.un,.slice Ag y.gaps.length cg,.slice An y.notes.length cn]:=(by rw[←hW3];exact heap_alloc_new wr _);rw[hW3];have HWI4:=Lh (HWI3.out.to hb3);have HBX4:=Lh (HBX3.out.to hb3);have HBL4:Hid (Below W2.heap.size W2 W3):=Lh (HBL.out.trans (hb3.mono HBL.out.size));have l0:=hX.cell 0 rfl;have l1:=hX.cell 1 rfl;have z3:=HWI4.out.x3.cell 0 rfl;have HX:=Lh hX;clear hX hb3 e0 e1' e2 e3 hW3 HWI3 HBX3 HBL;by_cases hf:y.fr≤wd∧wd<y.un
     ·obtain⟨hf1,hf2⟩:=hf;gi_upto_region 8 with(fail)
      have HLP:Hid (QcO ls wd=some k):=Lh (lineP_hit hkl (by rw[HY.out];exact⟨hf1,hf2⟩) HNO.out)
      have HFIN:Hid (Qal e1 v1 wd ((pre++[(⟨n1,s1,e1,v1,bo,no,Aa,ca,Ab,cb⟩:PV)]).map PV.plain)=some (n1,s1,k+1)):=Lh (by
       rw[List.map_append,QaT,HW0.out,Option.none_or]
       show Qal e1 v1 wd [(⟨n1,s1,e1,v1,bo,no⟩:PageP)]=_
       rw[Qal,if_pos ⟨rfl,rfl⟩,HLS.out,HLP.out])
      clear hf1 hf2 l0 l1 z3;have p0:=HBX4.out.cell 0 rfl;have p1:=HBX4.out.cell 1 rfl;have q0:=HWI4.out.x4.cell 0 rfl;have q1:=HWI4.out.x4.cell 1 rfl;have r0:=HWI4.out.x4.fz 0;have r1:=HWI4.out.x4.fz 1;have q5:=HWI4.out.x5.cell 0 rfl;have r5:=HWI4.out.x5.fz 0;have q6:=HWI4.out.x6.cell 0 rfl;have r6:=HWI4.out.x6.fz 0;have HK1:Hid ((k:Int)+1=((k+1:Nat):Int)):=Lh (by omega);gi_wp2;refine⟨⟨rfl,n1,s1,k+1,HFIN.out,?_⟩,?_⟩
      ·rw[←HK1.out];exact HWI4.out.found n1 s1 ((k:Int)+1) true
      ·have hq:∀x:Nat,x≤6→¬(w.heap.size+x=wa.heap.size∨w.heap.size+x=wa.heap.size+1):=fun x hx=>by omega
       exact(((((KS.of_below HB2.out _).trans (KS.of_below HBL4.out _)).trans (KS.setCell _ _ (hq 4 (by omega)))).trans (KS.setCell _ _ (hq 4 (by omega)))).trans (KS.setCell _ _ (hq 5 (by omega)))).trans (KS.setCell _ _ (hq 6 (by omega)))
     ·have HNF:=Lh hf;by_cases hf1:y.fr≤wd
      ·have hf2:¬wd<y.un:=fun e=>HNF.out ⟨hf1,e⟩
       gi_wp2;go_roundw
       case rel=>exact⟨k+1,by omega,by go_num,HBL4.out,fun j hj hjk=>by
        rcases Nat.lt_or_ge j k with h|h
        ·exact HNO.out j hj h
        ·obtain rfl:j=k:=by omega
         rw[HY.out];exact HNF.out⟩
       case measure=>simp[intOf];omega
      ·gi_wp2;go_roundw
       case rel=>exact⟨k+1,by omega,by go_num,HBL4.out,fun j hj hjk=>by
        rcases Nat.lt_or_ge j k with h|h
        ·exact HNO.out j hj h
        ·obtain rfl:j=k:=by omega
         rw[HY.out];exact HNF.out⟩
       case measure=>simp[intOf];omega
    ·obtain rfl:k=n:=by omega
     have HFIN:Hid (Qal e1 v1 wd ((pre++[(⟨n1,s1,e1,v1,bo,no,Aa,ca,Ab,cb⟩:PV)]).map PV.plain)=none):=Lh (by
      rw[List.map_append,QaT,HW0.out,Option.none_or]
      show Qal e1 v1 wd [(⟨n1,s1,e1,v1,bo,no⟩:PageP)]=_
      rw[Qal,if_pos ⟨rfl,rfl⟩,HLS.out,lineP_none (fun j hj=>hno j hj (by have:=HN.out;omega))]
      rfl)
     have HBL4:=Lh hbl;clear hno hbl;gi_wp2;exact⟨M,R,⟨HWI2.out.to HBL4.out,HFIN.out⟩,(KS.of_below HB2.out _).trans (KS.of_below HBL4.out _),fun i h=>.inl h,fun i h=>.inl h⟩
  ·have HNE:Hid (¬(e1=entry∧v1=ver)):=Lh he
   have HFIN:Hid (Qal entry ver wd ((pre++[(⟨n1,s1,e1,v1,bo,no,Aa,ca,Ab,cb⟩:PV)]).map PV.plain)=none):=Lh (by
    rw[List.map_append,QaT,HW0.out]
    show Qal entry ver wd [(⟨n1,s1,e1,v1,bo,no⟩:PageP)]=none
    rw[Qal,if_neg he]
    rfl)
   clear he;by_cases h1:e1=entry
   ·have h2:¬v1=ver:=fun e=>HNE.out ⟨h1,e⟩
    gi_wp2;exact⟨M,R,⟨HWI.out,HFIN.out⟩,KS.refl _ _,fun i h=>.inl h,fun i h=>.inl h⟩
   ·gi_wp2;exact⟨M,R,⟨HWI.out,HFIN.out⟩,KS.refl _ _,fun i h=>.inl h,fun i h=>.inl h⟩
 case done=>
  rintro D xs M R W hD hD2 hS ⟨hwi,hw0⟩ hK;rw[hS] at hw0;have HW0:=Lh hw0;have HK:=Lh hK;have q0:=hwi.x4.cell 0 rfl;have q1:=hwi.x4.cell 1 rfl;have r0:=hwi.x4.fz 0;have r1:=hwi.x4.fz 1;have q5:=hwi.x5.cell 0 rfl;have r5:=hwi.x5.fz 0;have q6:=hwi.x6.cell 0 rfl;have r6:=hwi.x6.fz 0;have HWI:=Lh hwi;clear hw0 hK hwi hS;gi_wp2;have HF:=Lh (HWI.out.found 0 0 0 false);have hKf:((((W.setCell ⟨w.heap.size+1+1+1+1,0,none⟩ (.int .i64 0)).setCell ⟨w.heap.size+1+1+1+1,1,none⟩ (.int .i64 0)).setCell ⟨w.heap.size+1+1+1+1+1,0,none⟩ (.int .i64 0)).setCell ⟨w.heap.size+1+1+1+1+1+1,0,none⟩ (.bool false)).heap[D]? =some (.deferred (some [])):=by
   rw[Qad _ _ _ _ (by omega),Qad _ _ _ _ (by omega),Qad _ _ _ _ (by omega),Qad _ _ _ _ (by omega)];exact HK.out
  clear q0 q1 r0 r1 q5 r5 q6 r6;generalize ((((W.setCell ⟨w.heap.size+1+1+1+1,0,none⟩ (.int .i64 0)).setCell ⟨w.heap.size+1+1+1+1,1,none⟩ (.int .i64 0)).setCell ⟨w.heap.size+1+1+1+1+1,0,none⟩ (.int .i64 0)).setCell ⟨w.heap.size+1+1+1+1+1+1,0,none⟩ (.bool false))=Wf at*;refine⟨by simp,.inl ⟨_,_,rfl,run_takeDeferred hKf,?_⟩⟩;have hg:=grownBy_putObj' Wf D (.deferred none);have HG:=Lh (HF.out.grown hg (fun k hk=>by cases hk;omega));refine⟨_,Qbl Tryd.results27 _ _ (w.heap.size+1+1+1+1) (w.heap.size+1+1+1+1+1) (w.heap.size+1+1+1+1+1+1) _ _ (0,0) _ _ _ rfl rfl rfl HG.out.x4 (HG.out.x5.cell 0 rfl) (HG.out.x6.cell 0 rfl) Tryd.underlying45 rfl (by kernel_rfl) Tryd.isAgg3 Tryd.isAgg4,?_,HG.out.bl⟩;rw[HW0.out];rfl
 case stop=>
  rintro D c pre W hD hD2 ⟨k,hk⟩ ⟨rfl,n,s,i,hwh,hwi⟩ hK
  have HW0:Hid (Qal entry ver wd (Qaf m h l)=some (n,s,i)):=Lh (by
   rw[←List.take_append_drop k (Qaf m h l),QaT,←hk,hwh];rfl)
  have HK:=Lh hK;have HWI:=Lh hwi;clear hwh hK hwi hk;gi_wp2;have HF:=HWI;have hKf:=HK.out;obtain⟨Wf,hWf⟩:∃Wf,W=Wf:=⟨_,rfl⟩;rw[hWf] at HF hKf ⊢;clear hWf HWI;refine⟨by simp,.inl ⟨_,_,rfl,run_takeDeferred hKf,?_⟩⟩;have hg:=grownBy_putObj' Wf D (.deferred none);have HG:=Lh (HF.out.grown hg (fun k hk=>by cases hk;omega));refine⟨_,Qbl Tryd.results27 _ _ (w.heap.size+1+1+1+1) (w.heap.size+1+1+1+1+1) (w.heap.size+1+1+1+1+1+1) _ _ (0,0) _ _ _ rfl rfl rfl HG.out.x4 (HG.out.x5.cell 0 rfl) (HG.out.x6.cell 0 rfl) Tryd.underlying45 rfl (by kernel_rfl) Tryd.isAgg3 Tryd.isAgg4,?_,HG.out.bl⟩;rw[HW0.out];rfl
end Go.Proofs.YtegaapiocihcpaaDoor
namespace Go.Proofs.YtegaapiocihcpaaDoor
open Go.RowKit
def vocab:List ByteArray:=[⟨#[97]⟩,⟨#[116,104,101]⟩,⟨#[99,111,117,114,116]⟩,⟨#[119,105,108,108]⟩,⟨#[104,101,97,114]⟩,⟨#[109,111,116,105,111,110]⟩,⟨#[111,102]⟩,⟨#[112,108,97,105,110,116,105,102,102]⟩,⟨#[77,46,73,46,84,46]⟩,⟨#[82,117,108,101]⟩,⟨#[49,50,40,98,41]⟩,⟨#[100,105,115,109,105,115,115,101,100]⟩,⟨#[119,105,116,104]⟩,⟨#[112,114,101,106,117,100,105,99,101]⟩,⟨#[97,110,100]⟩,⟨#[99,111,115,116,115]⟩,⟨#[87,87,87,64,87]⟩,⟨#[105,116]⟩,⟨#[105,115]⟩,⟨#[115,111]⟩,⟨#[111,114,100,101,114,101,100,46]⟩,⟨#[97,98,99,100,101,102,103,104,105,106,107,108,109,110,111,112,113,114,115,116,117,118,119,120,121,122,97,98,99,100,101,102,103,104,105,106,107,108,109,110]⟩]
def keysV:List ByteArray:=[⟨#[99,111,115,116,115]⟩,⟨#[109,111,116,105,111,110]⟩,⟨#[82,117,108,101]⟩,⟨#[115,109,105,116,104]⟩]
def Good (x:Word):Prop:=Qa6 x.s=true∧(x.key=⟨#[]⟩∨Qa6 x.key=true)∧(x.t=0∨x.t=1)
theorem vocab_good:vocab.all Qa6=true:=by decide +kernel
theorem keysV_good:keysV.all Qa6=true:=by decide +kernel
theorem lits_at {l:List ByteArray}(hl:l.all Qa6=true)(j:Nat)(hj:j<l.length):∃s,(l.map Value.string)[j]? =some (.string s)∧Qa6 s=true:=
 ⟨l[j],by simp[hj],(List.all_eq_true.1 hl) _ (List.getElem_mem hj)⟩
set_option maxRecDepth 100000 in
theorem one_any (n:Nat)(hn:n≤16777216)(w:World):
 Calls Tryd.prog 63 #[.int .i64 (n:Int)] w fun e w'=>∃x:Word,e=.returned x.val∧Good x∧x.n=0∧Below w.heap.size w w':=by
 have hb:(n:Int)≤16777216:=by omega
 have h0:0≤(n:Int):=by omega
 obtain⟨s,c0,hs⟩:=lits_at vocab_good (n%22) (Nat.mod_lt _ (by decide));simp only[vocab,List.map_cons,List.map_nil] at c0;have HS:=Lh hs;clear hs;go_enter Tryd.func63,Tryd.ntmps63;by_cases hk:n/22%6=0
 ·obtain⟨key,k0,hkey⟩:=lits_at keysV_good (n/132%4) (Nat.mod_lt _ (by decide));simp only[keysV,List.map_cons,List.map_nil] at k0;have hk':(n:Int)/22%6=0:=(by omega);have HK:=Lh hkey;clear hk hkey;go_wp2_with fail;refine bodyPost_ret (v:=.agg #[.string s,.string key,.int .i64 (↑n/528%2),.int .i64 0]) (by simp[results,Tryd.results63,go_sem]) rfl ⟨⟨s,key,(n:Int)/528%2,0⟩,rfl,⟨HS.out,.inr HK.out,?_⟩,rfl,?_⟩
  ·show(n:Int)/528%2=0∨(n:Int)/528%2=1;omega
  ·exact((((bR.alloc nL _).alloc (by simp) _).alloc (by simp;omega) _).alloc (by simp;omega) _)
 ·have hk':¬(n:Int)/22%6=0:=by omega
  clear hk;go_wp2_with fail;refine bodyPost_ret (v:=.agg #[.string s,.string ⟨#[]⟩,.int .i64 0,.int .i64 0]) (by simp[results,Tryd.results63,go_sem]) rfl ⟨⟨s,⟨#[]⟩,0,0⟩,rfl,⟨HS.out,.inl rfl,.inl rfl⟩,rfl,?_⟩;exact(((bR.alloc nL _).alloc (by simp) _).alloc (by simp;omega) _)
theorem valid_size {s:ByteArray}(h:Qa6 s=true):s.size≤40:=by
 unfold Qa6 at h;rw[Bool.and_eq_true,decide_eq_true_iff] at h;exact h.1.2
theorem good_ok {x:Word}(h:Good x)(h0:x.n=0):x.ok:=by
 have h1:=valid_size h.1;refine⟨by unfold maxLen;omega,?_,?_,by rw[h0];exact⟨by decide,by decide⟩⟩
 ·rcases h.2.1 with e|e
  ·rw[e];decide
  ·have:=valid_size e;unfold maxLen;omega
 ·rcases h.2.2 with e|e<;>rw[e]<;>exact⟨by decide,by decide⟩
theorem word_info:(Tryd.prog.info? 117).map (fun i=>(i.zero,i.size,i.bytes))=some (some (.agg #[.string ⟨#[]⟩,.string ⟨#[]⟩,.int .i64 0,.int .i64 0]),Rep.size Word,48):=by kernel_rfl
theorem part_any (n most:Nat)(hn:n≤1000000)(hm:1≤most)(hm2:most≤1000)(w:World):
 Calls Tryd.prog 46 #[.int .i64 (n:Int),.int .i64 (most:Int)] w fun e w'=>∃v,e=.returned v∧∃l:List Word,Own w' w.heap.size 117 v l∧l.length=1+n%most∧(∀x∈l,Good x∧x.n=0)∧Below w.heap.size w w':=by
 have h1:(n:Int)≤1000000:=by omega
 have h0:0≤(n:Int):=by omega
 have h2:(most:Int)≤1000:=by omega
 have h3:1≤(most:Int):=by omega
 have h4:(most:Int)≠0:=by omega
 go_enter Tryd.func46,Tryd.ntmps46;go_wp2_with fail;obtain⟨z0,hz0⟩:∃z,z=bits BinOp.or IntKind.u32 (↑n) 1:=⟨_,rfl⟩;have hz1:0≤z0:=by rw[hz0];exact bits_lo_u32 ..
 have hz2:z0≤4294967295:=by rw[hz0];exact bits_hi_u32 ..
 rw[←hz0];clear hz0;have hq:(n:Int)%(most:Int)=((n%most:Nat):Int):=by omega
 have hql:n%most<most:=Nat.mod_lt _ hm;obtain⟨q,hqe⟩:∃q,q=n%most:=⟨_,rfl⟩;rw[←hqe] at hq hql;have HQ2:=Lh hqe;clear hqe;have HQ:=Lh hq;have hq2:((n:Int)%(most:Int))<1000:=by omega
 have hq3:0≤((n:Int)%(most:Int)):=by omega
 clear hq;go_loopw [5,6,7] (fun x v i wr=>∃k:Nat,k≤1+q∧i=.int .i64 k∧(∃z:Int,x=.int .u32 z∧0≤z∧z≤4294967295)∧(∃l:List Word,Own wr w.heap.size 117 v l∧l.length=k∧(∀x∈l,Good x∧x.n=0))∧Below w.heap.size w wr) (fun _ _ i _=>1+q-(intOf i).toNat);(case atStart=>exact⟨0,Nat.zero_le _,rfl,⟨z0,rfl,hz1,hz2⟩,⟨[],Own.nil _ _ _,rfl,fun _ h=>(by cases h)⟩,Below.refl _ _⟩);case round=>
  obtain⟨k,hk,rfl,⟨z,rfl,hz3,hz4⟩,⟨l,hown,hlen,hgood⟩,hb⟩:=hrel;have Hb:=Lh hb;have hzw:=hb.size;have HL:=Lh hlen;have HG:=Lh hgood;clear hb hlen hgood;obtain⟨A2,c2,rfl,_⟩:=hown.sl;by_cases hlt:k<1+q
  ·have hkl:(k:Int)<1+((n:Int)%(most:Int)):=by rw[HQ.out];omega
   have hk0:(0:Int)≤(k:Int):=(by omega);have hk1:(k:Int)≤1000:=(by omega);go_wp2_with fail;obtain⟨y,hy,hy2⟩:∃y:Nat,(z*1664525+1013904223)%4294967296/256=(y:Int)∧y≤16777216:=⟨((z*1664525+1013904223)%4294967296/256).toNat,by omega,by omega⟩;rw[hy];clear hy;refine(one_any y hy2 _).mono ?_;rintro e w4 ⟨x,rfl,hgx,hx0,hb4⟩;have hown4:=hown.below hb4;have Hb4:=Lh (Hb.out.trans (hb4.mono hzw));have hz4:=hb4.size;have HX:=Lh hgx;have HX0:=Lh hx0;have HOK:=Lh (good_ok hgx hx0);have hll:l.length≤1000:=(by have:=HL.out;omega);clear hb4 hgx hx0;unfold Word.val;go_wp2_with (at_builtin;refine Qan (α:=Word) _ rfl (.tmp 22) (.tmp 27) 41 rfl w.heap.size 117 (.agg #[.string ⟨#[]⟩,.string ⟨#[]⟩,.int .i64 0,.int .i64 0]) 48 Tryd.underlying41 word_info rfl (by decide) _ l rfl (hown4.alloc _) w4.heap.size _ x (0,0) 117 rfl (heap_alloc_new w4 _) ⟨rfl,HOK.out⟩ (by omega) (by omega) (by first|omega|(simp;done)|(simp;omega)) _ rfl ?_;intro g cap w5 hown5 hg5 hat5 hlt5);go_roundw;(case rel=>exact⟨k+1,by omega,by go_num,⟨_,rfl,by omega,by omega⟩,⟨_,hown5,by simp[HL.out],fun y hy=>(by rcases List.mem_append.1 hy with h|h;exact HG.out y h;rw[List.mem_singleton] at h;subst h;exact⟨HX.out,HX0.out⟩)⟩,Qbk Hb4.out hown4 (by omega) hg5⟩);case measure=>simp[intOf];omega
  ·have hkl:¬(k:Int)<1+((n:Int)%(most:Int)):=by rw[HQ.out];omega
   go_wp2_with fail;go_ret;exact⟨_,rfl,l,hown,by rw[HL.out,←HQ2.out];omega,HG.out,Hb.out⟩
end Go.Proofs.YtegaapiocihcpaaDoor
