/- Texts of CbC. -/
import Derived.Test.YtegaapiocihcpaaGreatDoorVZj11
import Derived.Deep.RegionLaw
import Derived.Deep.RegionHeld3
import Derived.Deep.QuietTactic
import Derived.BigQuiet
import Derived.Deep.DrawnRows
set_option maxHeartbeats 4000000
namespace Go.Proofs.YtegaapiocihcpaaGreatDoor
open Go.RowKit
def IsText (w:World)(e:Ending)(w':World):Prop:=
 ∃v vn ls ns,e=.returned (.agg #[v,vn])∧GText ls ns∧(∃B us un,Nest w' (fun g=>w.heap.size≤g∧g<B) 110 66 v us ls∧Nest w' (fun g=>B≤g) 110 66 vn un ns)∧Below w.heap.size w w'
set_option maxRecDepth 100000 in
theorem text_any (A:Option Addr)(c:Nat)(l:List Int)(w:World)(hl:Sl w (fun b=>b<w.heap.size) A c l):
 Calls Tryz.prog 34 #[.slice A l.length c] w (IsText w):=by
 have hb0:=((Below.refl w.heap.size w).alloc nL (.cells #[.slice none 0 0,.slice none 0 0] 36));have hb1:=hb0.alloc (by simp) (.cells #[.slice none 0 0,.slice none 0 0] 36);have HB:=Lh hb1;have HL:=Lh hl;clear hl hb0 hb1;go_enter Tryz.func34,Tryz.ntmps34;go_wp2_with fail;have hx:TBox ((w.alloc (.cells #[.slice none 0 0,.slice none 0 0] 36)).alloc (.cells #[.slice none 0 0,.slice none 0 0] 36)) w.heap.size (.slice none 0 0) (.slice none 0 0):=⟨(Below.heap_alloc _ _ _ (by simp)).trans (Qai rfl)⟩;have hy:TBox ((w.alloc (.cells #[.slice none 0 0,.slice none 0 0] 36)).alloc (.cells #[.slice none 0 0,.slice none 0 0] 36)) (w.heap.size+1) (.slice none 0 0) (.slice none 0 0):=⟨Qai (by simp)⟩;generalize ((w.alloc (.cells #[.slice none 0 0,.slice none 0 0] 36)).alloc (.cells #[.slice none 0 0,.slice none 0 0] 36))=w1 at*;have S0:St1 w w1 (w.heap.size+1) 0 (.slice none 0 0) [] []:=⟨hy,hx,Nest.nil _ _ _ _,rfl,fun _ h=>(by cases h),HB.out⟩;have HS0:=Lh S0;clear hx hy S0;have hYX:w.heap.size<w.heap.size+1:=by omega
 generalize w.heap.size+1=Y at*;refine(Qbs A c l 1 4 _ (HL.out.to HB.out) (by decide) (by decide) (by decide)).mono ?_;rintro e w' ⟨r0,rfl,hr0,rfl⟩;clear HB;go_wp2_with fail;go_loopw [5] (fun i wr=>∃k:Nat,k≤4∧i=.int .i64 k∧∃v us ls,Hid (St1 w wr Y k v us ls)) (fun i _=>5-(intOf i).toNat);(case atStart=>exact⟨0,by omega,rfl,_,_,_,HS0⟩);case round=>
  obtain⟨k,hk,rfl,v,us,ls,hst⟩:=hrel;have hk0:0≤(k:Int):=(by omega);go_wp2_with fail;refine(Qbs A c l 0 4 _ (HL.out.to hst.out.b) (by decide) (by decide) (by decide)).mono ?_;rintro e w' ⟨r,rfl,hr,rfl⟩;by_cases hkr:k≤r
  ·have hkr':(k:Int)≤(r:Int):=by omega
   have hk3:(k:Int)≤3:=(by omega);have hle:us.length≤4:=(by have:=hst.out.n.len;have:=hst.out.l;omega);obtain⟨A1,c1,rfl,_,_⟩:=hst.out.n.own.form;have t0:=hst.out.y.c0;have hsz:=hst.out.b.size;have hw2:IntKind.i64.wrap (2+(k:Int))=2+(k:Int):=(by rw[IntWalk.i64_in _ (by omega)]);have hw3:0≤2+(k:Int):=(by omega);go_wp2_with fail
   go_region_law (first|(rw[if_pos (by rfl)];go_simp;go_at_call 77;refine(Qbs A c l (2+(k:Int)) 1000000 _ (HL.out.to hst.out.b.drew) (by decide) (by decide) hw3).mono ?_;rintro e w' ⟨r2,rfl,hr2,rfl⟩)|(rw[if_pos (by rfl)];go_simp;go_at_call 78;refine(part_any r2 40 (by omega) (by decide) (by decide) _).mono ?_;rintro e w4 ⟨vp,rfl,p,hown4,hplen,hpg,hb4'⟩;have hb4:=(Below.refl wr.heap.size wr).drew.trans hb4';clear hb4';have t4:=(hb4.cell (p:=⟨Y,0,none⟩) hst.out.y.lt).trans t0;obtain⟨Ap,cp,rfl,_,_⟩:=hown4.form;have HPL:=Lh hplen;have HPG:=Lh hpg;clear hplen hpg;have n4:=fun ob=>((hst.out.y.below hb4).below (bR.alloc nL ob)).c0)|((refine step_push (α:=Raw) _ (by rfl) (.tmp 18) (.tmp 24) 34 (by rfl) 0 110 (.slice none 0 0) 24 Tryz.underlying34 raw_info rfl (by decide) _ us (by rfl) ((hst.out.n.own.below hb4).alloc _) w4.heap.size _ ⟨.slice Ap p.length cp,rfl⟩ (0,0) 110 (by rfl) (heap_alloc_new w4 _) rfl (by omega) (by omega) (by simp) _ rfl ?_);intro g cap w5 hown5 hg5 hat5 hlt5;obtain⟨t5,z5⟩:=St1.cell hst.out hYX hb4 hg5)|fail)
   (all_goals go_wp2_with fail);(all_goals go_roundw);all_goals first
    |exact⟨k+1,by omega,by go_num,_,_,_,St1.push (u:=⟨.slice Ap p.length cp,rfl⟩) hst.out hYX hb4 (hown4.re nL) ⟨by rw[HPL.out];omega,by rw[HPL.out];omega,HPG.out⟩ hown5 hg5 (by rcases hat5 with e|e;exact .inl e.symm;exact .inr (by rw[e];rfl))⟩
    |(simp[intOf];omega)
  ·have hkr':¬(k:Int)≤(r:Int):=by omega
   have hk1:1≤k:=(by omega);have hst2:=Lh hst.out.next;have hl4:=hst.out.l;have hf:=Lh hst.out.f;have HT:Hid (GText ls []):=Lh ⟨by omega,by omega,by simp,fun p hp=>⟨(hf.out p hp).1,(hf.out p hp).2.1,fun x hx=>((hf.out p hp).2.2 x hx).1⟩,fun p hp=>(by cases hp),seqOf_none fun p hp x hx=>((hf.out p hp).2.2 x hx).2⟩;clear hst hf;generalize wr.heap.size=H at*;go_wp2_with fail;go_loopw [6,7,8] (fun i _ _ wr=>∃k:Nat,k≤r0∧i=.int .i64 k∧∃ls ns vn un,Hid (St2 w wr Y H v vn us un ls ns)∧Hid (GText ls ns)∧ns.length≤k) (fun i _ _ _=>r0-(intOf i).toNat);(case atStart=>exact⟨0,by omega,rfl,ls,[],_,[],hst2,HT,by simp⟩);case round=>
    clear hst2 HT hl4;obtain⟨k2,hk2,rfl,ls,ns,vn,un,hst,hgt,hnk⟩:=hrel;have hk20:0≤(k2:Int):=(by omega);by_cases hlt:k2<r0
    ·have hlt':(k2:Int)<(r0:Int):=by omega
     have hw6:IntKind.i64.wrap (6+(k2:Int))=6+(k2:Int):=(by rw[IntWalk.i64_in _ (by omega)]);have hw60:0≤6+(k2:Int):=(by omega);go_wp2_with fail;refine(Qbs A c l (6+(k2:Int)) 1000000 _ (HL.out.to hst.out.b) (by decide) (by decide) (by omega)).mono ?_;rintro e w' ⟨r2,rfl,hr2,rfl⟩;have hlens:∀p∈ls,p.length<9223372036854775808:=fun p hp=>by have:=(hgt.out.p p hp).2.1;omega
     have hlensn:∀p∈ns,p.length<9223372036854775808:=fun p hp=>by have:=(hgt.out.q p hp).2.1;omega
     obtain⟨A1,c1,rfl,_⟩:=hst.out.n.sl hlens;obtain⟨A2,c2,rfl,_⟩:=hst.out.m.sl hlensn;have HLS:=Lh hlens;have hn3:ns.length≤3:=(by omega);have hl4:=hgt.out.l4;have hwn:IntKind.i64.wrap ((ns.length:Int)+1)=(ns.length:Int)+1:=(by rw[IntWalk.i64_in _ (by omega)]);clear hlens hlensn;go_wp2_with fail;go_loopw [8] (fun i wr3=>∃j:Nat,j≤ls.length∧i=.int .i64 j∧Hid (St2 w wr3 Y H (.slice A1 ls.length c1) (.slice A2 ns.length c2) us un ls ns)) (fun i _=>ls.length-(intOf i).toNat);(case atStart=>exact⟨0,by omega,rfl,hst⟩);case round=>
      clear hst;obtain⟨j,hj,rfl,hst⟩:=hrel;have t0:=hst.out.y.c0;have t1:=hst.out.y.c1;have hj0:0≤(j:Int):=(by omega);have hj4:(j:Int)≤4:=(by omega);by_cases hjl:j<ls.length
      ·have hjl':(j:Int)<(ls.length:Int):=by omega
       obtain⟨gv,cap,hu,ev,hgl,hB,_,hcell,hfz⟩:=hst.out.n.at_ hjl;obtain⟨rfl,rfl⟩:A1=some ⟨gv,0,none⟩∧c1=cap:=by have:=Value.slice.inj ev;exact⟨this.1,this.2.2⟩
       have hpj:=hgt.out.p ls[j] (List.getElem_mem hjl);obtain⟨gk,capk,es,ek,_,hgk,hrest⟩:=(hst.out.n.inn j hu hjl).at_ (k:=0) (by omega);clear hrest;have hrow:=hst.out.n.inn j hu hjl;have EK:=Lh (show us[j].v.ownBlock=some gk by rw[ek];rfl);rw[ek] at hcell;have HEK:=Lh ek;rw[ek] at hrow;have HROW:=Lh hrow;have hlj:ls[j].length≤40:=hpj.2.1;obtain⟨As,cs,es2,hsl⟩:=hst.out.n.sl HLS.out;obtain⟨rfl,rfl⟩:As=some ⟨gv,0,none⟩∧cs=c1:=by have:=Value.slice.inj es2;exact⟨this.1.symm,this.2.2.symm⟩
       have HSL:=Lh hsl;have hYg:some Y≠some gk:=fun e=>by have:=(hst.out.n.mi j hu gk EK.out).1;injection e with e;omega
       have hvg:some gv≠some gk:=hst.out.n.ne j hu gk EK.out;clear ev es2 hsl hrow ek hfz;go_wp2_with fail
       go_region_held3 (fun w'=>w'.cell? ⟨Y,0,none⟩=some (.slice (some ⟨gv,0,none⟩) ls.length cs)∧w'.cell? ⟨Y,1,none⟩=some (.slice A2 ns.length c2)∧w'.cell? ⟨gv,j,none⟩=some (.slice (some ⟨gk,0,none⟩) ls[j].length capk)) (go_keep)
        (first|(go_at_call 80;refine(last_any _ _ ls j _ HSL.out.drew (by omega)).mono ?_;rintro e w5 ⟨b5,rfl,hb5,rfl⟩)|(go_at_call 79;refine(refer_any gk capk ls[j] r2 ((ns.length:Int)+1) b5 _ HROW.out.drew (by omega) (by omega) (by omega) (by omega)).mono ?_;rintro e w6 ⟨b6,rfl,q6,hq6,hl6,hlq6,hown6,hg6⟩;have hg6':=(grown_drew (World.grownBy.refl wr (some gk))).trans hg6;have f0:=hg6'.cell t0 hYg;have f1:=hg6'.cell t1 hYg;have f2:=hg6'.cell hcell hvg)|fail)
       clear hcell f2 hYg hvg;cases b6 with
       |false=>
        have hst2:=Lh (hst.out.stay hYX j hu hjl EK.out hq6 (by rw[HEK.out];exact hown6) hg6');clear hq6 hb5 hl6 hlq6 hown6 hg6 hg6' t0 t1 hwn;unfold Exit.then;go_wp2_with fail;go_roundw;(case rel=>exact⟨j+1,by omega,by go_num,hst2⟩);case measure=>simp[intOf];omega
       |true=>
        have hst2:=Lh (hst.out.inner hYX j hu EK.out (by rw[HEK.out];exact hown6) hg6');have HLF:=Lh (hb5 (hl6 rfl));have HQ6:=Lh hq6;clear hq6 hb5 hl6 hlq6 hown6 hg6 hg6' t0 t1 hwn;unfold Exit.then;go_wp2_with fail
        go_region_law (first|(rw[if_pos (by rfl)];go_simp;go_at_call 78;refine(part_any r2 12 (by omega) (by decide) (by decide) _).mono ?_;rintro e w7 ⟨vp,rfl,p,hown7,hplen,hpg,hb7'⟩;have hb7:=(Below.refl w6.heap.size w6).drew.trans hb7';clear hb7';have t7:=(hb7.cell (p:=⟨Y,1,none⟩) hst2.out.y.lt).trans f1;obtain⟨Ap,cp,rfl,_,_⟩:=hown7.form;have HPL:=Lh hplen;have HPG:=Lh hpg;clear hplen hpg;have n7:=fun ob=>((hst2.out.y.below hb7).below (bR.alloc nL ob)).c1)|((refine step_push (α:=Raw) _ (by rfl) (.tmp 67) (.tmp 70) 34 (by rfl) 0 110 (.slice none 0 0) 24 Tryz.underlying34 raw_info rfl (by decide) _ un (by rfl) ((hst2.out.m.own.below hb7).alloc _) w7.heap.size _ ⟨.slice Ap p.length cp,rfl⟩ (0,0) 110 (by rfl) (heap_alloc_new w7 _) rfl (by have:=hst2.out.m.len;omega) (by have:=hst2.out.m.len;omega) (by simp) _ rfl ?_);intro g cap8 w8 hown8 hg8 hat8 hlt8;obtain⟨t8,z8⟩:=St2.cells hst2.out hb7 hg8)|fail)
        (all_goals go_wp2_with fail);(all_goals go_roundw);all_goals first
         |exact⟨k2+1,by omega,by go_num,_,_,_,_,St2.push (u:=⟨.slice Ap p.length cp,rfl⟩) hst2.out hYX hb7 (hown7.re nL) hown8 hg8 (by rcases hat8 with e|e;exact .inl e.symm;exact .inr (by rw[e];rfl)),hgt.out.next j hjl HQ6.out HLF.out ⟨by rw[HPL.out];omega,by rw[HPL.out];omega,HPG.out⟩ (by omega),by simp;omega⟩
         |(simp[intOf];omega)
      ·have hjl':¬(j:Int)<(ls.length:Int):=by omega
       go_wp2_with fail;go_quiet (fail);have hst2:=Lh (hst.out.below (Below.dn bR nq));go_wp2_with fail;go_roundw;(case rel=>exact⟨k2+1,by omega,by go_num,ls,ns,_,un,hst2,hgt,by omega⟩);case measure=>simp[intOf];omega
    ·have hlt':¬(k2:Int)<(r0:Int):=by omega
     have hlens:∀p∈ls,p.length<9223372036854775808:=fun p hp=>by have:=(hgt.out.p p hp).2.1;omega
     have hlensn:∀p∈ns,p.length<9223372036854775808:=fun p hp=>by have:=(hgt.out.q p hp).2.1;omega
     obtain⟨A1,c1,rfl,_⟩:=hst.out.n.sl hlens;obtain⟨A2,c2,rfl,_⟩:=hst.out.m.sl hlensn;have t0:=hst.out.y.c0;have t1:=hst.out.y.c1;have x0:=hst.out.x.c0;have x1:=hst.out.x.c1;have hfz:=hst.out.x.fz;have hz:=hst.out.b.size;have hyx:=hst.out.y.lt;go_wp2_with fail;refine bodyPost_ret (v:=.agg #[.slice A1 ls.length c1,.slice A2 ns.length c2]) (by simp[results,Tryz.results34,go_sem,x0,x1]) rfl ⟨_,_,ls,ns,rfl,hgt.out,⟨H,us,un,?_,?_⟩,?_⟩
     ·exact(hst.out.n.kept fun g hg hB=>((Qac _ _ 1 _ (by omega)).trans (Qac _ _ 0 _ (by omega)))).mono fun g _ hB=>⟨by omega,hB.2⟩
     ·exact hst.out.m.kept fun g hg hB=>by have:=hst.out.yh;exact((Qac _ _ 1 _ (by omega)).trans (Qac _ _ 0 _ (by omega)))
     ·exact(hst.out.b.setCell (p:=⟨w.heap.size,0,none⟩) nL _).setCell (p:=⟨w.heap.size,1,none⟩) nL _
theorem tot_bd (m:Nat):∀(l:List (List Word)),(∀p∈l,p.length≤m)→tot l≤l.length*m
 |[],_=>by simp[tot]
 |p::l,h=>by
  have h1:=h p (List.mem_cons_self ..);have h2:=tot_bd m l (fun q hq=>h q (List.mem_cons_of_mem _ hq));have e:tot (p::l)=p.length+tot l:=(by unfold tot;rw[List.flatten_cons,qA]);rw[e,qC,Nat.add_mul,Nat.one_mul];omega
theorem GText.tot {ls ns:List (List Word)}(h:GText ls ns):tot (ls++ns)≤196:=by
 rw[Qbd];have h1:=tot_bd 40 ls (fun p hp=>(h.p p hp).2.1);have h2:=tot_bd 12 ns (fun p hp=>(h.q p hp).2.1);have h3:ls.length*40≤4*40:=Nat.mul_le_mul_right _ h.l4;have h4:ns.length*12≤3*12:=Nat.mul_le_mul_right _ h.n3;omega
structure TX (w:World)(A:Option Addr)(c:Nat)(B:Option Addr)(d:Nat)(a b:List (List Word)):Prop where
 sa:Sl w (fun b=>b<w.heap.size) A c a
 sb:Sl w (fun b=>b<w.heap.size) B d b
 la:a.length≤1048576
 lb:b.length≤1048576
 t:tot (a++b)≤1048576
theorem GText.lens {ls ns:List (List Word)}(h:GText ls ns):(∀p∈ls,p.length<9223372036854775808)∧(∀p∈ns,p.length<9223372036854775808):=
 ⟨fun p hp=>by have:=(h.p p hp).2.1;omega,fun p hp=>by have:=(h.q p hp).2.1;omega⟩
def up:Int→Nat→List Int
 |_,0=>[]
 |a,m+1=>(a+1)::up (a+1) m
theorem up_range:∀(n:Nat) (a:Int),(List.range n).map (fun i:Nat=>a+((i:Int)+1))=up a n
 |0,_=>rfl
 |n+1,a=>by
  rw[List.range_succ_eq_map,List.map_cons,List.map_map,up,←up_range n (a+1)];congr 1;apply List.map_congr_left;intro i _;simp only[Function.comp];omega
theorem up_split:∀(l1 l2:List Int) (a:Int) (m:Nat),l1++l2=up a m→l1=up a l1.length∧l2=up (a+l1.length) l2.length∧m=l1.length+l2.length
 |[],l2,a,m,h=>by
  have hl:l2.length=m:=by
   have:∀(m:Nat) (a:Int),(up a m).length=m:=by
    intro m;induction m with
    |zero=>intro a;rfl
    |succ m ih=>intro a;rw[up,qC,ih]
   have h':=congrArg List.length h;rw[this] at h';simpa using h'
  subst hl;refine⟨rfl,?_,by simp⟩;simpa using h
 |x::l1,l2,a,0,h=>by simp[up] at h
 |x::l1,l2,a,m+1,h=>by
  rw[List.cons_append,up] at h;obtain⟨h1,h2⟩:=List.cons.inj h;obtain⟨e1,e2,e3⟩:=up_split l1 l2 (a+1) m h2;refine⟨by rw[qC,up,←e1,h1],?_,by rw[qC];omega⟩;rw[qC,show a+((l1.length+1:Nat):Int)=a+1+l1.length by omega];exact e2
theorem seqOf_cons (x:Word)(r:List Word):Qa9 (x::r)=if x.n=0 then Qa9 r else x.n::Qa9 r:=by
 unfold Qa9;rw[List.map_cons];by_cases h:x.n=0
 ·rw[if_pos h,List.filter_cons_of_neg (by simp[h])]
 ·rw[if_neg h,List.filter_cons_of_pos (by simp[h])]
def Fine (x:Word):Prop:=badW x=false∧(x.t=0∨x.t=1)
theorem Qdu {np nn i:Nat}(hi:i<np):∀(p:List Word) (notes:Int) (m:Nat),(∀x∈p,Fine x)→Qa9 p=up notes m→notes+m≤nn→QaS np nn i notes p=(0,notes+m)
 |[],notes,m,_,hs,_=>by
  have:m=0:=by
   cases m with
   |zero=>rfl
   |succ m=>simp[Qa9,up] at hs
  subst this;simp[QaS]
 |x::r,notes,m,hf,hs,hn=>by
  have hx:=hf x (List.mem_cons_self ..);have hr:∀y∈r,Fine y:=fun y hy=>hf y (List.mem_cons_of_mem _ hy)
  rw[seqOf_cons] at hs;by_cases h0:x.n=0
  ·rw[if_pos h0] at hs;rw[QaS,Qcz hx.1 hx.2 h0,if_pos rfl];exact Qdu hi r notes m hr hs hn
  ·rw[if_neg h0] at hs;cases m with
   |zero=>simp[up] at hs
   |succ m=>
    rw[up] at hs;obtain⟨h1,h2⟩:=List.cons.inj hs;rw[QaS,QeH hx.1 hx.2 h0 (by rintro(h|h|h)<;>omega),if_pos rfl];rw[Qdu hi r (notes+1) m hr h2 (by omega)];simp only[Prod.mk.injEq,true_and];omega
theorem scanW_none {np nn i:Nat}:∀(p:List Word) (notes:Int),(∀x∈p,Fine x∧x.n=0)→QaS np nn i notes p=(0,notes)
 |[],notes,_=>rfl
 |x::r,notes,hf=>by
  have hx:=hf x (List.mem_cons_self ..);rw[QaS,Qcz hx.1.1 hx.1.2 hx.2,if_pos rfl];exact scanW_none r notes (fun y hy=>hf y (List.mem_cons_of_mem _ hy))
theorem scanP_none {np nn:Nat}:∀(l:List (List Word)) (i:Nat) (notes:Int),(∀p∈l,∀x∈p,Fine x∧x.n=0)→QbV np nn i notes l=(0,notes)
 |[],_,_,_=>rfl
 |p::r,i,notes,hf=>by
  rw[QbV,scanW_none p notes (hf p (List.mem_cons_self ..)),if_pos rfl];exact scanP_none r (i+1) notes (fun q hq=>hf q (List.mem_cons_of_mem _ hq))
theorem scanP_fine {np nn:Nat}(R:List (List Word)):∀(l:List (List Word)) (i:Nat) (notes:Int) (m:Nat),i+l.length≤np→(∀p∈l,∀x∈p,Fine x)→Qa9 l.flatten=up notes m→notes+m≤nn→QbV np nn i notes (l++R)=QbV np nn (i+l.length) (notes+m) R
 |[],i,notes,m,_,_,hs,_=>by
  have:m=0:=by
   cases m with
   |zero=>rfl
   |succ m=>simp[Qa9,up] at hs
  subst this;simp
 |p::r,i,notes,m,hi,hf,hs,hn=>by
  rw[qC] at hi;rw[List.flatten_cons,QaU] at hs;obtain⟨e1,e2,e3⟩:=up_split _ _ _ _ hs;have h1:=Qdu (np:=np) (nn:=nn) (i:=i) (by omega) p notes _ (hf p (List.mem_cons_self ..)) e1 (by omega);rw[List.cons_append,QbV,h1,if_pos rfl];rw[scanP_fine R r (i+1) _ _ (by omega) (fun q hq=>hf q (List.mem_cons_of_mem _ hq)) e2 (by omega)];rw[qC];congr 1
  ·omega
  ·omega
theorem chk_fine (ls ns:List (List Word))(h1:ls.length≤100)(h2:ns.length≤100)(hl:∀p∈ls++ns,1≤p.length∧p.length≤500)(hf:∀p∈ls,∀x∈p,Fine x)(hn:∀p∈ns,∀x∈p,Fine x∧x.n=0)(hs:Qa9 ls.flatten=up 0 ns.length):Qee ls ns=0:=by
 have a1:Qa1 QeK (ls++ns)=false:=by
  unfold Qa1;rw[List.any_eq_false];intro p hp;have:=(hl p hp).2;simp[QeK];omega
 have a2:Qa1 QcI (ls++ns)=false:=by
  unfold Qa1;rw[List.any_eq_false];intro p hp;have:=(hl p hp).1;simp[QcI];intro e;rw[e] at this;simp at this
 unfold Qee;rw[if_neg (by rw[a1];simp;omega),if_neg (by rw[a2];simp)];rw[scanP_fine ns ls 0 0 ns.length (by omega) hf hs (by omega),scanP_none ns _ _ hn];unfold endP;rw[if_neg (by simp),if_neg (by simp)]
theorem Good.fine {x:Word}(h:Good x):Fine x:=by
 refine⟨?_,h.2.2⟩;by_cases hk:x.key=⟨#[]⟩
 ·exact good_nokey h.1 hk
 ·exact good_key h.1 (h.2.1.resolve_left hk)
theorem GText.seq {ls ns:List (List Word)}(h:GText ls ns):Qa9 ls.flatten=up 0 ns.length:=by
 rw[h.s,←up_range];apply List.map_congr_left;intro i _;omega
theorem GText.chk {ls ns:List (List Word)}(h:GText ls ns):Qee ls ns=0:=
 chk_fine ls ns (by have:=h.l4;omega) (by have:=h.n3;omega)
  (fun p hp=>by
    rcases List.mem_append.1 hp with hp|hp
    ·have:=h.p p hp;exact⟨this.1,by have:=this.2.1;omega⟩
    ·have:=h.q p hp;exact⟨this.1,by have:=this.2.1;omega⟩)
  (fun p hp x hx=>((h.p p hp).2.2 x hx).fine) (fun p hp x hx=>⟨((h.q p hp).2.2 x hx).1.fine,((h.q p hp).2.2 x hx).2⟩) h.seq
theorem Qdh (a b:List Word):QaT (a++b)=QaT a++QaT b:=by unfold QaT;rw[List.filter_append,List.map_append]
theorem cut_drop {α:Type}(l:List α){i e:Nat}(h:i≤e)(he:e≤l.length):Qef l i e++l.drop e=l.drop i:=by
 unfold Qef;have h1:l.drop i=(l.take e++l.drop e).drop i:=by rw[List.take_append_drop]
 rw[h1,List.drop_append_of_le_length (by rw[qK];omega)]
def endsF:Nat→Nat→List Nat→Prop
 |i,n,[]=>i=n
 |i,n,e::es=>i<e∧e≤n∧endsF e n es
theorem QeN (es:List Nat)(n:Nat)(he:∀i,i<n→i<es.getD i 0∧es.getD i 0≤n):∀f i,n-i≤f→i≤n→endsF i n (chainE es n f i)
 |0,i,hf,hi=>by
  show i=n;omega
 |f+1,i,hf,hi=>by
  rw[chainE];split
  ·rename_i h;obtain⟨h1,h2⟩:=he i h;exact⟨h1,h2,QeN es n he f _ (by omega) h2⟩
  ·show i=n;omega
theorem Qdw {ws:List Word}{m:Int}(hr:Reg (Qah ws) m):endsF 0 ws.length (endsP (Qah ws) m):=by
 have hl:(Qah ws).length=ws.length:=by unfold Qah;simp
 have h:=QeN _ _ (endsP_he hr) (Qah ws).length 0 (by omega) (Nat.zero_le _);rw[←hl];exact h
theorem Qcs (ws:List Word)(wd:List Int)(m first:Int):∀(es:List Nat) (i:Nat),endsF i ws.length es→(QaA ws wd m first i es).flatMap (·.notes)=QaT (ws.drop i)
 |[],i,h=>by
  have:i=ws.length:=h;subst this;simp[QaA,QaT]
 |e::es,i,h=>by
  obtain⟨h1,h2,h3⟩:=h;rw[QaA,List.flatMap_cons,Qcs ws wd m first es e h3];show QaT (Qef ws i e)++QaT (ws.drop e)=_;rw[←Qdh,cut_drop ws (Nat.le_of_lt h1) h2]
theorem setP_notes {ws:List Word}{m:Int}(first:Int)(hr:Reg (Qah ws) m):(setP ws first m).flatMap (·.notes)=QaT ws:=by
 unfold setP;have h:=Qdw hr;rw[Qcs ws _ m first _ 0 h,List.drop_zero]
theorem QeJ {m:Int}:∀(a:List (List Word)) (first:Int),(∀p∈a,Reg (Qah p) m)→(Qaz m first a).flatten.flatMap (·.notes)=QaT a.flatten
 |[],_,_=>rfl
 |p::a,first,h=>by
  rw[Qaz,List.flatten_cons,List.flatMap_append,setP_notes first (h p (by simp)),QeJ a _ (fun q hq=>h q (by simp[hq])),List.flatten_cons,Qdh]
theorem notesP_seq (l:List Word):QaT l=(Qa9 l).map (· - 1):=by
 induction l with
 |nil=>rfl
 |cons x l ih=>
  rw[seqOf_cons];by_cases hx:x.n=0
  ·rw[if_pos hx,←ih];unfold QaT;rw[List.filter_cons_of_neg (by simp[hx])]
  ·rw[if_neg hx,List.map_cons,←ih];unfold QaT;rw[List.filter_cons_of_pos (by simp[hx]),List.map_cons]
theorem nextN_up (n:Nat):∀(j:Nat) (a:Int),0≤a→a+j≤n→Qbz n a ((up a j).map (· - 1))=some (a+j)
 |0,a,_,_=>by simp[up,Qbz]
 |j+1,a,h0,h=>by
  rw[up,List.map_cons,Qbz,if_neg (by omega)];rw[nextN_up n j (a+1) (by omega) (by omega)];congr 1;omega
theorem setP_ne {ws:List Word}{m:Int}(first:Int)(hr:Reg (Qah ws) m)(hw:1≤ws.length):setP ws first m≠[]:=by
 have h:=Qdw hr;intro e;have h2:=QbC ws (Qah ws) m first (endsP (Qah ws) m) 0
 have h3:(setP ws first m).length=0:=by rw[e];rfl
 unfold setP at h3;rw[h3] at h2;rw[List.eq_nil_of_length_eq_zero h2.symm] at h;have:0=ws.length:=h;omega
theorem parts_ne {m:Int}:∀(a:List (List Word)) (first:Int),(∀p∈a,Reg (Qah p) m∧1≤p.length)→(Qaz m first a).any (fun l=>decide (l=[]))=false
 |[],_,_=>rfl
 |p::a,first,h=>by
  have hp:=h p (by simp);rw[Qaz,List.any_cons,parts_ne a _ (fun q hq=>h q (by simp[hq])),decide_eq_false (setP_ne first hp.1 hp.2)];rfl
theorem GText.fine {a b:List (List Word)}(hg:GText a b):FineT a b:=chk_zero hg.chk
theorem GText.textE {a b:List (List Word)}(hg:GText a b){m h:Int}(hm:500≤m∧m≤2000)(hh:4≤h∧h≤100):textE a b m h=0:=by
 have hf:=hg.fine;have hl:QbE a b m=0:=by unfold QbE;rw[if_neg (by rw[hg.chk];simp),if_pos hm]
 unfold Go.Proofs.YtegaapiocihcpaaGreatDoor.textE;rw[if_neg (by rw[hl];simp)];unfold Qa8;have hr:∀p∈a++b,Reg (Qah p) m∧1≤p.length:=fun p hp=>⟨hf.reg hm.1 hm.2 hp,(hf.p p hp).1⟩
 rw[if_neg (by omega)];have h1:(Qau a b m).any (fun l=>decide (l=[]))=false:=parts_ne b _ (fun p hp=>hr p (by simp[hp]));rw[h1,if_neg (by simp)]
 have h2:(QaX a m).flatMap (·.notes)=(up 0 b.length).map (· - 1):=by
  unfold QaX;rw[QeJ a 0 (fun p hp=>(hr p (by simp[hp])).1),notesP_seq,hg.seq]
 have h3:(Qau a b m).length=b.length:=Qbi m b _;rw[h2,h3,nextN_up b.length b.length 0 (by omega) (by omega)];simp
theorem GText.wrong {a b:List (List Word)}(hg:GText a b){m h:Int}(hm:500≤m∧m≤2000)(hh:4≤h∧h≤100):Qbo m h a b=0:=by
 unfold Qbo;rw[if_neg (by rw[hg.textE hm hh];simp),if_neg];have h1:=hg.l1;rw[Qbd];intro e;have h2:Go.Proofs.YtegaapiocihcpaaGreatDoor.tot a=0:=by omega
 obtain⟨p,ps,rfl⟩:∃p ps,a=p::ps:=by
  cases a with
  |nil=>simp at h1
  |cons p ps=>exact⟨p,ps,rfl⟩
 have h3:=(hg.p p (by simp)).1;unfold Go.Proofs.YtegaapiocihcpaaGreatDoor.tot at h2;rw[List.flatten_cons,qA] at h2;omega
theorem GText.pages {a b:List (List Word)}(hg:GText a b){m h:Int}(hm:500≤m∧m≤2000)(hh:4≤h∧h≤100):Qag a b m h=QaP a b m h.toNat∧(Qag a b m h).length≤196:=by
 have hE:=hg.textE hm hh;have he:Qag a b m h=QaP a b m h.toNat:=by unfold Qag;rw[if_pos hE]
 refine⟨he,?_⟩;obtain⟨hf,-,hp⟩:=Qba hE;rw[he];have e1:=Qcb (Qau a b m) h.toNat (Qaq (QaX a m) (Qau a b m)) (QaX a m) [];have e2:=Qc9 hp;have e3:=QbM m a 0 (fun p hp=>hf.reg hm.1 hm.2 (by simp[hp]));have e4:=QbM m b (Go.Proofs.YtegaapiocihcpaaGreatDoor.tot a:Nat) (fun p hp=>hf.reg hm.1 hm.2 (by simp[hp]));have e5:=hg.tot;rw[Qbd] at e5;unfold QaX Qau at*;unfold QaP QaX Qau;omega
theorem GText.short {a b:List (List Word)}(hg:GText a b):QbP a∧QbP b:=
 ⟨⟨by have:=hg.l4;omega,fun p hp=>by have:=(hg.p p hp).2.1;omega⟩,⟨by have:=hg.n3;omega,fun p hp=>by have:=(hg.q p hp).2.1;omega⟩⟩
theorem Own.slB {α:Type}[Rep α][Flat α]{w:World}{base:Nat}{e:TypeId}{v:Value}{l:List α}(h:Own w base e v l):∃A c,v=.slice A l.length c∧Sl w (fun b=>v.ownBlock=some b) A c l:=by
 obtain⟨A,c,rfl,hs⟩:=h.sl;refine⟨A,c,rfl,hs.1,hs.2.1,fun hn=>?_⟩;obtain⟨b,o,rfl,hb,hlt,hx⟩:=hs.2.2 hn;refine⟨b,o,rfl,rfl,hlt,fun i hi=>?_⟩;obtain⟨es,hr,hc⟩:=hx i hi;exact⟨es,Flat.flat hr,hc⟩
theorem Nest.slB {w:World}{B:Nat→Prop}{te ti:TypeId}{v:Value}{us:List Raw}{ls:List (List Word)}(h:Nest w B te ti v us ls)(hlen:∀l∈ls,l.length<9223372036854775808):∃A c,v=.slice A ls.length c∧Sl w B A c ls:=by
 obtain⟨A,c,e0,hs⟩:=h.own.sl;refine⟨A,c,by rw[e0,h.len],by rw[←h.len];exact hs.1,hs.2.1,fun hn=>?_⟩;obtain⟨b,o,rfl,hb,hlt,hx⟩:=hs.2.2 (by rw[h.len];exact hn);refine⟨b,o,rfl,h.mv b (by rw[e0];rfl),hlt,fun i hi=>?_⟩;have hi':i<us.length:=by rw[h.len];exact hi
 obtain⟨es,hr,hc⟩:=hx i hi';obtain⟨A1,c1,e1,hs1⟩:=(h.inn i hi' hi).slB;have hr':es=[us[i].v]:=hr;exact⟨es,⟨A1,c1,by rw[hr',e1],hs1.mono fun g hg _=>h.mi i hi' g hg,hlen _ (List.getElem_mem hi)⟩,hc⟩
def IsT (w:World)(e:Ending)(w':World):Prop:=
 ∃A c B d ls ns,e=.returned (.agg #[.slice A ls.length c,.slice B ns.length d])∧GText ls ns∧Rep.R w' (fun b=>w.heap.size≤b) [.slice A ls.length c,.slice B ns.length d] (⟨ls,ns⟩:TextP)∧Below w.heap.size w w'
theorem IsText.own {w w':World}{e:Ending}(h:IsText w e w'):IsT w e w':=by
 obtain⟨v,vn,ls,ns,rfl,hg,⟨B,us,un,h1,h2⟩,hb⟩:=h;have hle:=h1.own.lt;have hl4:=hg.l4;have hn3:=hg.n3;obtain⟨g0,_,_,_,_,hg0,_⟩:=h1.at_ (k:=0) (by have:=hg.l1;omega);obtain⟨A,c,rfl,hs⟩:=h1.slB hg.lens.1;obtain⟨A',c',rfl,hs'⟩:=h2.slB hg.lens.2;refine⟨A,c,A',c',ls,ns,rfl,hg,⟨_,_,rfl,⟨A,c,rfl,hs.mono fun i hi _=>hi.1,by dsimp only;omega⟩,⟨A',c',rfl,hs'.mono fun i hi _=>by have:B≤i:=hi;have:=hg0.1;have:=hg0.2;omega,by dsimp only;omega⟩⟩,hb⟩
theorem rtext_any (A:Option Addr)(c:Nat)(l:List Int)(k:Nat)(_:k≤1000)(w:World)(hl:Sl w (fun b=>b<w.heap.size) A c l):
 Calls Tryz.prog 94 #[.slice A l.length c,.int .i64 (k:Int)] w (IsT w):=by
 have hl1:=hl.1;have hl2:c≤9223372036854775807:=hl.2.1;obtain⟨j,hj⟩:∃j,min k l.length=j:=⟨_,rfl⟩;have hjl:j≤l.length:=by omega
 have hd:=hl.drop j hjl;have hm:min (k:Int) (l.length:Int)=(j:Int):=by omega
 have hlen:(l.drop j).length=l.length-j:=List.length_drop;obtain⟨A2,hA2⟩:∃A2,(if c=j then A else A.map (·.add (j*Rep.size Int)))=A2:=⟨_,rfl⟩;rw[hA2] at hd;have hb0:=(Below.refl w.heap.size w).alloc nL (.cells #[.slice none 0 0,.slice none 0 0] 36);have hx0:ABox (w.alloc (.cells #[.slice none 0 0,.slice none 0 0] 36)) w.heap.size 36 [.slice none 0 0,.slice none 0 0]:=heap_alloc_new w _;have hz:(w.alloc (.cells #[.slice none 0 0,.slice none 0 0] 36)).heap.size=w.heap.size+1:=by simp
 have HT:=Lh (text_any A2 (c-j) (l.drop j) _ (hd.to hb0));rw[hlen] at HT;have HJ:=Lh hj;have fin:∀(a b:Int),a=b→b=a:=fun _ _ h=>h.symm
 clear hd hlen hl hj fin;have hjI:(j:Int)≤(l.length:Int):=by omega
 have hA3:(if c=j then(.slice A (l.length-j) (c-j):Value) else .slice (A.map (·.add j)) (l.length-j) (c-j))=.slice A2 (l.length-j) (c-j):=by
  rw[←hA2];split<;>simp[Rep.size]
 have HA3:=Lh hA3;clear hA2 hA3;go_enter Tryz.func94,Tryz.ntmps94;go_upto_region 1 with(fail);generalize w.alloc (.cells #[.slice none 0 0,.slice none 0 0] 36)=w0 at*;have HB0:=Lh hb0;have HX0:=Lh hx0;have HZ:=Lh hz;clear hb0 hx0 hz;by_cases hc:c=j
 ·have h3:A2=A:=by
   have h:=HA3.out;rw[if_pos hc] at h;injection h with h
   exact h.symm
  rw[h3] at HT;have hlj:l.length=j:=(by omega);subst hc;rw[hlj,Nat.sub_self] at HT;clear HA3;rw[hlj] at hm ⊢;clear hlj hl1 hjl hjI HJ;clear h3
  go_wp2_with (first|(go_at_call 34;refine HT.out.mono ?_;intro e w1 hT1;obtain⟨A5,c5,B5,d5,ls,ns,rfl,hg,hN,hb⟩:=hT1.own;have HG:=Lh hg;have HN:=Lh hN;have HB:=Lh hb;have x0:=(HX0.out.to hb).cell 0 rfl;have x1:=(HX0.out.to hb).cell 1 rfl;have f0:=(HX0.out.to hb).fz 0;have f1:=(HX0.out.to hb).fz 1;clear hg hN hb hT1)|fail)
  refine bodyPost_ret (v:=.agg #[.slice A5 ls.length c5,.slice B5 ns.length d5]) (Qbx Tryz.results94 _ _ w.heap.size _ [.slice A5 ls.length c5,.slice B5 ns.length d5] _ rfl (by simpa using((HX0.out.to HB.out).set 0 (.slice A5 ls.length c5)).set 1 (.slice B5 ns.length d5)) Tryz.underlying36 rfl (by kernel_rfl)) rfl ⟨A5,c5,B5,d5,ls,ns,rfl,HG.out,?_,?_⟩
  ·have e1:∀g,w.heap.size<g→((w1.setCell ⟨w.heap.size,0,none⟩ (.slice A5 ls.length c5)).setCell ⟨w.heap.size,1,none⟩ (.slice B5 ns.length d5)).heap[g]? =w1.heap[g]? :=fun g hg=>(Qac _ _ 1 _ (by omega)).trans (Qac _ _ 0 _ (by omega))
   exact Rep.mono (Rep.keep HN.out (fun g (hg:w0.heap.size≤g) _=>e1 g (by have:=HZ.out;omega))) (fun g (hg:w0.heap.size≤g) _=>by have:=HZ.out;omega)
  ·exact((HB0.out.trans (HB.out.mono HB0.out.size)).setCell (p:=⟨w.heap.size,0,none⟩) nL _).setCell (p:=⟨w.heap.size,1,none⟩) nL _
 ·have h3:A2=A.map (·.add j):=by
   have h:=HA3.out;rw[if_neg hc] at h;injection h with h
   exact h.symm
  rw[h3] at HT;clear h3
  go_wp2_with (first|(go_at_call 34;refine HT.out.mono ?_;intro e w1 hT1;obtain⟨A5,c5,B5,d5,ls,ns,rfl,hg,hN,hb⟩:=hT1.own;have HG:=Lh hg;have HN:=Lh hN;have HB:=Lh hb;have x0:=(HX0.out.to hb).cell 0 rfl;have x1:=(HX0.out.to hb).cell 1 rfl;have f0:=(HX0.out.to hb).fz 0;have f1:=(HX0.out.to hb).fz 1;clear hg hN hb hT1)|fail)
  refine bodyPost_ret (v:=.agg #[.slice A5 ls.length c5,.slice B5 ns.length d5]) (Qbx Tryz.results94 _ _ w.heap.size _ [.slice A5 ls.length c5,.slice B5 ns.length d5] _ rfl (by simpa using((HX0.out.to HB.out).set 0 (.slice A5 ls.length c5)).set 1 (.slice B5 ns.length d5)) Tryz.underlying36 rfl (by kernel_rfl)) rfl ⟨A5,c5,B5,d5,ls,ns,rfl,HG.out,?_,?_⟩
  ·have e1:∀g,w.heap.size<g→((w1.setCell ⟨w.heap.size,0,none⟩ (.slice A5 ls.length c5)).setCell ⟨w.heap.size,1,none⟩ (.slice B5 ns.length d5)).heap[g]? =w1.heap[g]? :=fun g hg=>(Qac _ _ 1 _ (by omega)).trans (Qac _ _ 0 _ (by omega))
   exact Rep.mono (Rep.keep HN.out (fun g (hg:w0.heap.size≤g) _=>e1 g (by have:=HZ.out;omega))) (fun g (hg:w0.heap.size≤g) _=>by have:=HZ.out;omega)
  ·exact((HB0.out.trans (HB.out.mono HB0.out.size)).setCell (p:=⟨w.heap.size,0,none⟩) nL _).setCell (p:=⟨w.heap.size,1,none⟩) nL _
def QbU (i k:Nat):List Int:=(10-(i:Int))::(List.range k).map (fun j:Nat=>30+7*(i:Int)-3*(j:Int))
theorem versG_succ (i k:Nat):QbU i k++[30+7*(i:Int)-3*(k:Int)]=QbU i (k+1):=by
 unfold QbU;rw[List.range_succ,List.map_append];rfl
theorem Qbg (i k:Nat):(QbU i k).length=k+1:=by unfold QbU;simp
def GSect (f i:Nat)(s:SectP):Prop:=
 (∃d:Nat,d≤1∧s.entry=2*(i:Int)+d)∧s.frozen=decide (i<f)∧∃j,j≤2∧(s.frozen=false→j=0)∧s.vers=QbU i j∧s.texts.length=j+1∧∀t∈s.texts,GText t.a t.b
structure GBk (m h:Int)(l:List SectP):Prop where
 m1:500≤m
 m2:m≤1080
 h1:4≤h
 h2:h≤8
 n:l.length≤4
 s:∃f,∀i (hi:i<l.length),GSect f i l[i]
structure OB (w:World)(m h:Int)(f k:Nat)(v:Value)(l:List SectP)(W:World):Prop where
 r:ABox W w.heap.size 25 [.int .i64 0,.int .i64 0,.slice none 0 0]
 b:ABox W (w.heap.size+1) 25 [.int .i64 m,.int .i64 h,v]
 o:OwnP W w.heap.size 74 v l (fun i=>w.heap.size+1<i)
 n:l.length=k
 g:∀i (hi:i<l.length),GSect f i l[i]
 bl:Below w.heap.size w W
structure IB (B X:Nat)(wr:World)(e:Int)(fr:Bool)(vv vt:Value)(vs:List Int)(ts:List TextP)(W:World):Prop where
 s:ABox W X 74 [.int .i64 e,.bool fr,vv,vt]
 sx:B≤X
 v:Own W B 3 vv vs
 vx:vv.ownBlock≠some X
 t:OwnP W B 36 vt ts (fun b=>B≤b∧b≠X∧some b≠vv.ownBlock)
 g:∀t∈ts,GText t.a t.b
 bl:Below B wr W
section
variable {w W W' wr:World} {m h:Int} {f k:Nat} {v:Value} {l:List SectP}
theorem OB.to (H:OB w m h f k v l W)(hb:Below W.heap.size W W'):OB w m h f k v l W':=⟨H.r.to hb,H.b.to hb,H.o.below hb,H.n,H.g,H.bl.trans (hb.mono H.bl.size)⟩
theorem OB.lt (H:OB w m h f k v l W):w.heap.size+1<W.heap.size:=by have:=H.b.lt;omega
variable {B X:Nat} {e:Int} {fr:Bool} {vv vt:Value} {vs:List Int} {ts:List TextP}
theorem IB.to (H:IB B X wr e fr vv vt vs ts W)(hB:B≤W.heap.size)(hb:Below W.heap.size W W'):IB B X wr e fr vv vt vs ts W':=⟨H.s.to hb,H.sx,H.v.below hb,H.vx,H.t.below hb,H.g,H.bl.trans (hb.mono hB)⟩
end
theorem IB.secV {B X:Nat}{wr W W1 W':World}{e:Int}{fr:Bool}{vv vt:Value}{vs:List Int}{ts:List TextP}(H:IB B X wr e fr vv vt vs ts W)(h1:Below W.heap.size W W1)(hg:W1.grownBy W' vv.ownBlock):ABox W' X 74 [.int .i64 e,.bool fr,vv,vt]:=
 (hg.block X (by have:=h1.size;have:=H.s.lt;omega) (fun e=>H.vx e.symm)).trans (H.s.to h1)
theorem IB.secT {B X:Nat}{wr W W1 W':World}{e:Int}{fr:Bool}{vv vt:Value}{vs:List Int}{ts:List TextP}(H:IB B X wr e fr vv vt vs ts W)(h1:Below W.heap.size W W1)(hg:W1.grownBy W' vt.ownBlock):ABox W' X 74 [.int .i64 e,.bool fr,vv,vt]:=
 (hg.block X (by have:=h1.size;have:=H.s.lt;omega) (fun e=>(H.t.at_ X e.symm).2.1 rfl)).trans (H.s.to h1)
theorem IB.pushV {B X:Nat}{wr W W1 W':World}{e:Int}{fr:Bool}{vv vt v':Value}{vs vs':List Int}{ts:List TextP}{g:Nat}(H:IB B X wr e fr vv vt vs ts W)(hB:B≤W.heap.size)(h1:Below W.heap.size W W1) (hown:Own W' B 3 v' vs') (hg:W1.grownBy W' vv.ownBlock) (hat:vv.ownBlock=some g∨g=W1.heap.size) (hv:v'.ownBlock=some g):
 IB B X wr e fr v' vt vs' ts (W'.setCell ⟨X,2,none⟩ v'):=by
 have hX:=H.s.lt;have hz:=h1.size
 have hgx:g≠X:=fun he=>by
  rcases hat with h|h
  ·exact H.vx (he▸h)
  ·omega
 have hs:ABox W' X 74 [.int .i64 e,.bool fr,vv,vt]:=(hg.block X (by have:=h1.size;omega) (fun e=>H.vx e.symm)).trans (H.s.to h1);refine⟨?_,H.sx,?_,by rw[hv];intro e;injection e with e;exact hgx e,?_,H.g,?_⟩
 ·have:=hs.set 2 v';simpa using this
 ·refine hown.at_blocks fun b _ hb=>Qac _ _ _ _ (fun e=>?_)
  rw[hv] at hb;injection hb with hb;omega
 ·refine OwnP.set ?_ _ _ _ (fun i hi=>hi.2.1);refine(((H.t.below h1).mono (Q:=fun b=>(B≤b∧b≠X∧some b≠vv.ownBlock)∧some b≠some g) (fun i hi hl=>⟨hi,fun e=>?_⟩)).grown hg (fun i hi=>hi.1.2.2)).mono (fun i hi _=>⟨hi.1.1,hi.1.2.1,by rw[hv];exact hi.2⟩);injection e with e
  rcases hat with h|h
  ·exact hi.2.2 (by rw[h,e])
  ·omega
 ·exact((H.bl.trans (h1.mono hB)).grown hg (by omega) (fun k hk=>(H.v.lt k hk).1)).setCell (p:=⟨X,2,none⟩) H.sx _
theorem IB.pushT {B X:Nat}{wr W W1 W':World}{e:Int}{fr:Bool}{vv vt v':Value}{vs:List Int}{ts ts':List TextP}{g:Nat}(H:IB B X wr e fr vv vt vs ts W)(hB:B≤W.heap.size)(h1:Below W.heap.size W W1) (hown:Own W' B 36 v' (ts'.map (Av.mk:TextP→Av TextP (fun b=>B≤b∧b≠X∧some b≠vv.ownBlock)))) (hg:W1.grownBy W' vt.ownBlock) (hat:vt.ownBlock=some g∨g=W1.heap.size) (hv:v'.ownBlock=some g) (hgt:∀t∈ts',GText t.a t.b):
 IB B X wr e fr vv v' vs ts' (W'.setCell ⟨X,3,none⟩ v'):=by
 have hX:=H.s.lt;have hz:=h1.size;have htx:vt.ownBlock≠some X:=fun he=>(H.t.at_ X he).2.1 rfl
 have hgx:g≠X:=fun he=>by
  rcases hat with h|h
  ·exact htx (he▸h)
  ·omega
 have hgv:some g≠vv.ownBlock:=fun he=>by
  rcases hat with h|h
  ·exact(H.t.at_ g h).2.2 he
  ·have:=(H.v.lt g he.symm).2;omega
 have hs:ABox W' X 74 [.int .i64 e,.bool fr,vv,vt]:=(hg.block X (by have:=h1.size;omega) (fun e=>htx e.symm)).trans (H.s.to h1);refine⟨?_,H.sx,?_,H.vx,?_,hgt,?_⟩
 ·have:=hs.set 3 v';simpa using this
 ·refine((H.v.below h1).at_blocks (w':=W') fun b hb hv'=>hg.block b hb (fun e=>?_)).at_blocks fun b _ hb=>Qac _ _ _ _ (fun e=>H.vx (by rw[hb,e]))
  exact(H.t.at_ b e.symm).2.2 hv'.symm
 ·refine OwnP.set (P:=fun b=>B≤b∧b≠X∧some b≠vv.ownBlock) ?_ _ _ _ (fun i hi=>hi.2.1);have hgB:B≤g:=by
   rcases hat with h|h
   ·exact(H.t.lt g h).1
   ·omega
  exact OwnP.ofBd hown (fun k hk=>by rw[hv] at hk;injection hk with hk;subst hk;exact⟨hgB,hgx,hgv⟩)
 ·exact((H.bl.trans (h1.mono hB)).grown hg (by omega) (fun k hk=>(H.t.lt k hk).1)).setCell (p:=⟨X,3,none⟩) H.sx _
theorem Own.repB {α:Type}[Rep α][Flat α]{w:World}{base:Nat}{e:TypeId}{v:Value}{l:List α}{S:Nat→Prop}(h:Own w base e v l)(hl:l.length<9223372036854775808)(hS:∀b,v.ownBlock=some b→S b):Rep.R w S [v] l:=by
 obtain⟨A,c,rfl,hs⟩:=h.slB;exact⟨A,c,rfl,hs.mono fun i hi _=>hS i hi,hl⟩
theorem IB.rep {B X Y:Nat}{wr W W2:World}{e:Int}{fr:Bool}{v vv vt:Value}{vs:List Int}{ts:List TextP}(H:IB B X wr e fr vv vt vs ts W)(hI:I64 e)(h2:Below W.heap.size W W2)(hY:Y<B)(hv:∀g,v.ownBlock=some g→g<B)(hvs:vs.length≤10)(hts:ts.length≤10):
 Rep.R W2 (fun b=>some b≠v.ownBlock∧Y<b) [.int .i64 e,.bool fr,vv,vt] (⟨e,fr,vs,ts⟩:SectP):=by
 refine⟨vv,vt,rfl,hI,(H.v.below h2).repB (by omega) (fun b hb=>?_),(H.t.below h2).rep (by omega) (fun b hb _=>?_)⟩
 ·have:=(H.v.lt b hb).1;exact⟨fun e=>by have:=hv b e.symm;omega,by omega⟩
 ·have:=hb.1;exact⟨fun e=>by have:=hv b e.symm;omega,by omega⟩
theorem OB.book {w W W1 W':World}{m h:Int}{f k:Nat}{v:Value}{l:List SectP}(H:OB w m h f k v l W)(h1:Below W.heap.size W W1)(hg:W1.grownBy W' v.ownBlock):ABox W' (w.heap.size+1) 25 [.int .i64 m,.int .i64 h,v]:=
 (hg.block _ (by have:=h1.size;have:=H.b.lt;omega) (fun e=>by have:=H.o.at_ _ e.symm;omega)).trans (H.b.to h1)
theorem OB.push {w W W1 W':World}{m h:Int}{f k g:Nat}{v v':Value}{l:List SectP}{s:SectP}(H:OB w m h f k v l W)(h1:Below W.heap.size W W1)(hs:GSect f k s) (hown:Own W' w.heap.size 74 v' ((l++[s]).map (Av.mk:SectP→Av SectP (fun i=>w.heap.size+1<i)))) (hg:W1.grownBy W' v.ownBlock) (hat:v.ownBlock=some g∨g=W1.heap.size) (hv:v'.ownBlock=some g):
 OB w m h f (k+1) v' (l++[s]) (W'.setCell ⟨w.heap.size+1,2,none⟩ v'):=by
 have hz:=h1.size;have hlt:=H.lt;have hgB:w.heap.size+1<g:=by
  rcases hat with e|e
  ·exact H.o.at_ g e
  ·omega
 refine⟨?_,?_,?_,by rw[qA,H.n];rfl,fun i hi=>?_,?_⟩
 ·refine ABox.other ?_ (by omega) _ _;exact(hg.block _ (by have:=H.r.lt;omega) (fun e=>by have:=H.o.at_ _ e.symm;omega)).trans (H.r.to h1)
 ·have:=(H.book h1 hg).set 2 v';simpa using this
 ·exact(OwnP.ofBd hown (fun k hk=>by rw[hv] at hk;injection hk with hk;subst hk;exact hgB)).set _ _ _ (fun i hi e=>by omega)
 ·by_cases hi2:i<l.length
  ·rw[List.getElem_append_left hi2];exact H.g i hi2
  ·obtain rfl:i=l.length:=by rw[qA,List.length_singleton] at hi;omega
   have e:(l++[s])[l.length]=s:=(by simp);rw[e,H.n];exact hs
 ·exact((H.bl.trans (h1.mono H.bl.size)).grown hg (by have:=H.bl.size;omega) (fun k hk=>by have:=H.o.at_ k hk;omega)).setCell (p:=⟨w.heap.size+1,2,none⟩) (by show w.heap.size≤w.heap.size+1;omega) _
theorem text_lit {w:World}{B:Nat}{P:Nat→Prop}{va vb:Value}{t:TextP}(hB:B≤w.heap.size)(h:Rep.R w P [va,vb] t)(hP:P w.heap.size):
 OwnP (w.alloc (.cells #[va,vb] 36)) B 36 (.slice (some ⟨w.heap.size,0,none⟩) 1 1) [t] (fun b=>P b∧b≤w.heap.size):=by
 refine⟨?_,fun g hg=>by cases hg;exact⟨hP,Nat.le_refl _⟩⟩;refine Own.lit (α:=Av TextP (fun b=>P b∧b≤w.heap.size)) w B _ #[va,vb] [⟨t⟩] hB (by simp[maxLen]) rfl (Rep.one h) (fun i hi=>?_);obtain rfl:i=0:=by simpa using hi
 show Rep.R _ _ [va,vb] t;exact Rep.mono (Rep.keep (Rep.mono (S':=fun b=>P b∧b<w.heap.size) h (fun b h1 h2=>⟨h1,h2⟩)) (Kept.all (bR.alloc nL _))) (fun b hb _=>⟨by omega,hb.1,by omega⟩)
theorem IB.start {wr w2 w3:World}{B:Nat}{e ver:Int}{fr:Bool}{va vb:Value}{t:TextP}(hB:B=wr.heap.size)(h2:Below B wr w2)(hz:w2.heap.size=B+2)(hr:IRow w2 B 3 [ver])(hv:I64 ver) (hs:ABox w2 (B+1) 74 [.int .i64 e,.bool fr,.slice (some ⟨B,0,none⟩) 1 1,.slice none 0 0]) (h3:Below w2.heap.size w2 w3) (ht:Rep.R w3 (fun b=>w2.heap.size≤b) [va,vb] t) (hg:GText t.a t.b):
 IB B (B+1) wr e fr (.slice (some ⟨B,0,none⟩) 1 1) (.slice (some ⟨w3.heap.size,0,none⟩) 1 1) [ver] [t] ((w3.alloc (.cells #[va,vb] 36)).setCell ⟨B+1,3,none⟩ (.slice (some ⟨w3.heap.size,0,none⟩) 1 1)):=by
 have hz3:=h3.size;have hb4:Below w3.heap.size w3 (w3.alloc (.cells #[va,vb] 36)):=bR.alloc nL _;have hb24:Below w2.heap.size w2 (w3.alloc (.cells #[va,vb] 36)):=h3.trans (hb4.mono hz3);refine⟨?_,by omega,?_,?_,?_,?_,?_⟩
 ·have:=(hs.to hb24).set 3 (.slice (some ⟨w3.heap.size,0,none⟩) 1 1);simpa using this
 ·exact(((hr.to hb24).other (by omega) _ _).own nL (fun x hx=>by rw[List.mem_singleton] at hx;subst hx;exact hv) (by simp[maxLen]))
 ·show some B≠some (B+1);simp
 ·have h5:=text_lit (B:=B) (P:=fun b=>w2.heap.size≤b) (by omega) ht hz3;refine(h5.mono (Q:=fun b=>B≤b∧b≠B+1∧some b≠(Value.slice (some ⟨B,0,none⟩) 1 1).ownBlock) (fun i hi _=>?_)).set _ _ _ (fun i hi=>hi.2.1);have h6:w2.heap.size≤i:=hi.1;refine⟨by omega,by omega,?_⟩;show some i≠some B;intro e;injection e with e;omega
 ·intro x hx;rw[List.mem_singleton] at hx;subst hx;exact hg
 ·exact(h2.trans (hb24.mono (by omega))).setCell (p:=⟨B+1,3,none⟩) (by show B≤B+1;omega) _
set_option maxRecDepth 100000 in
theorem gbook_any (A:Option Addr)(c:Nat)(l:List Int)(w:World)(hl:Sl w (fun b=>b<w.heap.size) A c l):
 Calls Tryz.prog 45 #[.slice A l.length c] w fun e w'=>∃m h A' c' ss,e=.returned (.agg #[.int .i64 m,.int .i64 h,.slice A' ss.length c'])∧GBk m h ss∧Sl w' (fun b=>w.heap.size≤b∧b<w'.heap.size) A' c' ss∧Below w.heap.size w w':=by
 have hb0:=(Below.refl w.heap.size w).alloc nL (.cells #[.int .i64 0,.int .i64 0,.slice none 0 0] 25);have hx0:ABox (w.alloc (.cells #[.int .i64 0,.int .i64 0,.slice none 0 0] 25)) w.heap.size 25 [.int .i64 0,.int .i64 0,.slice none 0 0]:=heap_alloc_new w _;have hz:(w.alloc (.cells #[.int .i64 0,.int .i64 0,.slice none 0 0] 25)).heap.size=w.heap.size+1:=by simp
 have hl0:=hl.to hb0;have HL:=Lh hl;go_enter Tryz.func45,Tryz.ntmps45;go_upto_region 1 with(fail);generalize w.alloc (.cells #[.int .i64 0,.int .i64 0,.slice none 0 0] 25)=w0 at*;have HB0:=Lh hb0;have HX0:=Lh hx0;have HZ:=Lh hz;have HL0:=Lh hl0;clear hb0 hx0 hz hl0 hl;go_wp2_with fail;refine(Qbs A c l 0 30 w0 HL0.out (by decide) (by decide) (by decide)).mono ?_;rintro e _ ⟨pm,rfl,hpm,rfl⟩;have hpm2:(pm:Int)≤29:=by omega
 have hpm0:(0:Int)≤pm:=by omega
 clear hpm;go_wp2_with fail;refine(Qbs A c l 1 5 w0 HL0.out (by decide) (by decide) (by decide)).mono ?_;rintro e _ ⟨ph,rfl,hph,rfl⟩;have hph2:(ph:Int)≤4:=by omega
 have hph0:(0:Int)≤ph:=by omega
 clear hph;go_upto_region 2 with(fail);obtain⟨m,hm⟩:∃m:Int,500+20*(pm:Int)=m:=⟨_,rfl⟩;obtain⟨h,hh⟩:∃h:Int,4+(ph:Int)=h:=⟨_,rfl⟩;rw[hm,hh];have HM:Hid ((500≤m∧m≤1080)∧4≤h∧h≤8):=Lh (by omega);clear hm hh hpm2 hpm0 hph2 hph0;obtain⟨w1,hw1⟩:∃w1,w0.alloc (.cells #[.int .i64 m,.int .i64 h,.slice none 0 0] 25)=w1:=⟨_,rfl⟩;have hb1:Below w0.heap.size w0 w1:=by rw[←hw1];exact bR.alloc nL _
 have hx1:ABox w1 (w.heap.size+1) 25 [.int .i64 m,.int .i64 h,.slice none 0 0]:=by rw[←hw1,←HZ.out];exact heap_alloc_new w0 _
 have HOB0:Hid (∀f,OB w m h f 0 (.slice none 0 0) [] w1):=Lh (fun f=>⟨HX0.out.to hb1,hx1,OwnP.nil _ _ _ _,rfl,fun i hi=>absurd hi (Nat.not_lt_zero _),HB0.out.trans (hb1.mono HB0.out.size)⟩);have HL1:=Lh (HL0.out.to hb1);have HE:Hid (w0.heap.size=w.heap.size+1):=HZ;rw[hw1,HZ.out];clear hw1 hb1 hx1;go_wp2_with fail;refine(Qbs A c l 2 5 w1 HL1.out (by decide) (by decide) (by decide)).mono ?_;rintro e _ ⟨n,rfl,hn,rfl⟩;have hn2:(n:Int)≤4:=by omega
 have hn0:(0:Int)≤n:=by omega
 clear hn;go_wp2_with fail;refine(Qbs A c l 3 ((n:Int)+1) w1 HL1.out (by omega) (by omega) (by decide)).mono ?_;rintro e _ ⟨f,rfl,hf,rfl⟩;have hf2:(f:Int)≤4:=by omega
 have hf0:(0:Int)≤f:=by omega
 clear hf;go_wp2_with fail;go_loopw [6] (fun i wr=>∃k:Nat,k≤n∧i=.int .i64 k∧∃v ss,OB w m h f k v ss wr) (fun i _=>n-(intOf i).toNat);(case atStart=>exact⟨0,by omega,rfl,_,_,HOB0.out f⟩);case round=>
  obtain⟨k,hk,rfl,v,ss,hob⟩:=hrel;have HOB:=Lh hob;clear hob;have hk2:(k:Int)≤4:=(by omega);have hk0:(0:Int)≤k:=(by omega);by_cases hlt:k<n
  ·have hkl:(k:Int)<n:=by omega
   have HLr:=Lh (HL.out.to HOB.out.bl);go_wp2_with fail;refine(Qbs A c l (4+(k:Int)) 2 wr HLr.out (by decide) (by decide) (by omega)).mono ?_;rintro e _ ⟨d,rfl,hd,rfl⟩;have hd2:(d:Int)≤1:=(by omega);have hd0:(0:Int)≤d:=(by omega);clear hd;go_upto_region 8 with(fail);obtain⟨en,hen⟩:∃en:Int,2*(k:Int)+(d:Int)=en:=⟨_,rfl⟩;have HEN:Hid (∃d:Nat,d≤1∧en=2*(k:Int)+d):=Lh ⟨d,by omega,hen.symm⟩;obtain⟨ve,hve⟩:∃ve:Int,10-(k:Int)=ve:=⟨_,rfl⟩;have HI:Hid (I64 en∧I64 ve):=Lh ⟨⟨by omega,by omega⟩,⟨by omega,by omega⟩⟩;obtain⟨fr,hfr⟩:∃fr,decide (k<f)=fr:=⟨_,rfl⟩;have HVE:=Lh hve;have HFR:=Lh hfr;rw[hen,hve,hfr];clear hen hve hd2 hd0 hfr;obtain⟨B,hB⟩:∃B,wr.heap.size=B:=⟨_,rfl⟩;obtain⟨w2,hw2⟩:∃w2,(wr.alloc (.cells #[.int .i64 ve] 3)).alloc (.cells #[.int .i64 en,.bool fr,.slice (some ⟨B,0,none⟩) 1 1,.slice none 0 0] 74)=w2:=⟨_,rfl⟩;have hb2:Below B wr w2:=(by rw[←hw2];exact(bR.alloc (by omega) _).alloc (by simp;omega) _);have hr2:IRow w2 B 3 [ve]:=(by rw[←hw2];exact(Below.heap_alloc _ _ _ (by simp;omega)).trans (by rw[←hB];exact heap_alloc_new wr _));have hs2:ABox w2 (B+1) 74 [.int .i64 en,.bool fr,.slice (some ⟨B,0,none⟩) 1 1,.slice none 0 0]:=(by rw[←hw2];exact Qai (by simp;omega));have hz2:w2.heap.size=B+2:=(by rw[←hw2];simp;omega);rw[hB,hw2];have HBw:=Lh hB;have HB2:=Lh hb2;have HR2:=Lh hr2;have HS2:=Lh hs2;have HZ2:=Lh hz2;have HOB2:=Lh (HOB.out.to (hB▸hb2));have hT:=rtext_any A c l (12+6*k) (by omega) w2 (HL.out.to HOB2.out.bl);rw[show((12+6*k:Nat):Int)=12+6*(k:Int) by omega] at hT;have HT:=Lh hT;clear hT hw2 hb2 hr2 hs2 hz2 hB
   go_upto_region 9 with(first|(go_at_call 94;refine HT.out.mono ?_;rintro e w3 ⟨A5,c5,B5,d5,ls,ns,rfl,hg,hN,hb⟩;have HIB:=Lh (IB.start HBw.out.symm HB2.out HZ2.out HR2.out HI.out.2 HS2.out hb hN hg);have HB3:=Lh hb;have hx:=((HS2.out.to hb).to ((Below.refl _ w3).alloc nL (.cells #[.slice A5 ls.length c5,.slice B5 ns.length d5] 36)));have x3:=hx.cell 3 rfl;have f3:=hx.fz 3;clear hg hN hb hx)|fail)
   have HIB0:Hid (∃vv vt ts,IB B (B+1) wr en fr vv vt (QbU k 0) ts ((w3.alloc (.cells #[.slice A5 ls.length c5,.slice B5 ns.length d5] 36)).setCell ⟨B+1,3,none⟩ (.slice (some ⟨w3.heap.size,0,none⟩) 1 1))∧ts.length=0+1):=Lh ⟨_,_,_,by
    have h:=HIB.out
    rw[show[ve]=QbU k 0 by rw[←HVE.out];rfl] at h
    exact h,rfl⟩
   clear HIB x3 f3 HR2 HS2 HB2 HZ2 HT HB3;generalize (w3.alloc (.cells #[.slice A5 ls.length c5,.slice B5 ns.length d5] 36)).setCell ⟨B+1,3,none⟩ (.slice (some ⟨w3.heap.size,0,none⟩) 1 1)=w4 at*;go_wp2_with fail;obtain⟨wo,rfl⟩:∃wo:World,wo=wr:=⟨_,rfl⟩;go_loopw [8] (fun j wx=>∃q:Nat,q≤2∧j=.int .i64 q∧(fr=false→q=0)∧∃vv vt ts,IB B (B+1) wo en fr vv vt (QbU k q) ts wx∧ts.length=q+1) (fun j _=>3-(intOf j).toNat);(case atStart=>exact⟨0,by omega,rfl,fun _=>rfl,HIB0.out⟩);case round=>
    obtain⟨q,hq,rfl,hfq,vv,vt,ts,hib,htn⟩:=hrel;have HIB:=Lh hib;have HFQ:=Lh hfq;have HTN:=Lh htn;have hq2:(q:Int)≤2:=(by omega);have hq0:(0:Int)≤q:=(by omega);have i1:=hib.s.cell 1 rfl;have hBB:B≤wr.heap.size:=(by have:=hib.s.lt;omega);have HOBx:Hid (OB w m h f k v ss wr):=Lh (HOB.out.to (HBw.out▸hib.bl));clear hib hfq htn;go_wp2_with fail;refine(Qbs A c l (8+(k:Int)) 3 wr (HL.out.to HOBx.out.bl) (by decide) (by decide) (by omega)).mono ?_;rintro e _ ⟨r,rfl,hr,rfl⟩;by_cases hqr:q<r∧fr=true
    ·obtain⟨hqr,hft⟩:=hqr;have hqr2:(q:Int)<r:=(by omega);have HFT:=Lh hft;subst hft;have hq1:(q:Int)≤1:=(by omega);have hq1n:q≤1:=(by omega);clear hr;go_upto_region 12 with(fail);obtain⟨A6,c6,hv6,-,-⟩:=HIB.out.v.form;obtain⟨A7,c7,hv7,-,-⟩:=HIB.out.t.len;subst hv6 hv7;rw[Qbg,HTN.out] at HIB;have i2:=HIB.out.s.cell 2 rfl;obtain⟨vn,hvn⟩:∃vn:Int,30+7*(k:Int)-3*(q:Int)=vn:=⟨_,rfl⟩;have HVN:=Lh hvn;have HIN:Hid (I64 vn):=Lh ⟨by omega,by omega⟩;have hln:(QbU k q).length=q+1:=Qbg k q;obtain⟨vs,hvs⟩:∃vs,QbU k q=vs:=⟨_,rfl⟩;have HVS:=Lh hvs;rw[hvs] at HIB hln;have hba:Below wr.heap.size wr (wr.alloc (.cells #[.int .i64 vn] 3)):=bR.alloc nL _;have HBA:=Lh hba;have hown6:Own wr B 3 (.slice A6 vs.length c6) vs:=(by rw[hln];exact HIB.out.v);rw[←hln] at i2;have HIB6:Hid ((Value.slice A6 vs.length c6).ownBlock=(Value.slice A6 (q+1) c6).ownBlock):=Lh (by rw[hln]);have HLN:=Lh hln;have hvl:vs.length≤10:=(by omega);clear hvs hba hln i1
     go_upto_region 13 with(first|(at_builtin;refine Qav (α:=Int) _ rfl (.tmp 62) (.tmp 69) 22 rfl B 3 (.int .i64 0) 8 Tryz.underlying22 Qbf rfl (by decide) _ vs rfl (hown6.alloc _) wr.heap.size _ vn (0,0) 3 rfl (heap_alloc_new wr _) ⟨rfl,HIN.out⟩ (by omega) (by omega) (by first|omega|(simp;done)|(simp;omega)) _ rfl ?_;intro g cap w5 hown5 hg5 hat5 hlt5;have hs5:=HIB.out.secV HBA.out (HIB6.out▸hg5);have x2:=hs5.cell 2 rfl;have f2:=hs5.fz 2;have HIB5:=Lh (HIB.out.pushV (v':=.slice (some ⟨g,0,none⟩) (vs.length+1) cap) hBB HBA.out hown5 (HIB6.out▸hg5) (HIB6.out▸hat5) rfl);clear hs5 hown5 hg5 hat5 hlt5)|fail)
     obtain⟨W8,hW8⟩:∃W8,(w5.setCell ⟨B+1,2,none⟩ (.slice (some ⟨g,0,none⟩) (vs.length+1) cap)).drew=W8:=⟨_,rfl⟩
     have HIB8:Hid (IB B (B+1) wo en true (.slice (some ⟨g,0,none⟩) (vs.length+1) cap) (.slice A7 (q+1) c7) (vs++[vn]) ts W8):=Lh (by
      rw[←hW8]
      exact HIB5.out.to (by have:=HIB5.out.s.lt;omega) bR.drew)
     clear HIB5 x2 f2;refine Qaj (fun w'=>w'.cell? ⟨B+1,3,none⟩=some (.slice A7 (q+1) c7)) (fun i=>decide (i<13)) (by kernel_rfl) ?_;rw[hW8];clear hW8;have hS0:W8.cell? ⟨B+1,3,none⟩=some (.slice A7 (q+1) c7):=HIB8.out.s.cell 3 rfl;have HB8:Hid (B+1<W8.heap.size):=Lh HIB8.out.s.lt;have hT2:=rtext_any A c l (15+6*k+7*q) (by omega) W8 (HL.out.to ((HOB.out.to (HBw.out▸HIB8.out.bl)).bl));rw[show((15+6*k+7*q:Nat):Int)=15+6*(k:Int)+7*(q:Int) by omega] at hT2;have HT2:=Lh hT2;have hwa:IntKind.i64.wrap (6*(k:Int))=6*(k:Int):=(by rw[IntWalk.i64_in _ (by omega)]);have hwb:IntKind.i64.wrap (15+6*(k:Int))=15+6*(k:Int):=(by rw[IntWalk.i64_in _ (by omega)]);have hwc:IntKind.i64.wrap (7*(q:Int))=7*(q:Int):=(by rw[IntWalk.i64_in _ (by omega)]);have hwd:IntKind.i64.wrap (15+6*(k:Int)+7*(q:Int))=15+6*(k:Int)+7*(q:Int):=(by rw[IntWalk.i64_in _ (by omega)]);clear hT2;refine tE 0 ⟨some 72,Op.fieldAddr 74 (.tmp 7) 3,0,_,_,_⟩ ?_ rfl ?zq0 (hS0) ?zq1;(case zq0=>intro _ s;clear s;go_simp;(try with_reducible rfl));(all_goals try go_frame);refine tE 1 ⟨some 73,Op.load 72 (.tmp 72),72,_,_,_⟩ ?_ rfl ?zq2 (hS0) ?zq3;(case zq2=>intro wS hSw;(have hq9:=hSw);clear hSw;go_simp;(try with_reducible rfl));(all_goals try go_frame);refine tE 2 ⟨some 74,Op.move (.tmp 0),22,_,_,_⟩ ?_ rfl ?zq4 (hS0) ?zq5;(case zq4=>intro _ s;clear s;go_simp;(try with_reducible rfl));(all_goals try go_frame);refine tE 3 ⟨some 75,Op.move (.tmp 6),3,_,_,_⟩ ?_ rfl ?zq6 (hS0) ?zq7;(case zq6=>intro _ s;clear s;go_simp;(try with_reducible rfl));(all_goals try go_frame);refine tE 4 ⟨some 76,Op.binOp BinOp.mul 3 (Operand.const (Value.int IntKind.i64 6)) (.tmp 75) 3,3,_,_,_⟩ ?_ rfl ?zq8 (hS0) ?zq9;(case zq8=>intro _ s;clear s;go_simp;(try with_reducible rfl));(all_goals try go_frame);refine tE 5 ⟨some 77,Op.binOp BinOp.add 3 (Operand.const (Value.int IntKind.i64 15)) (.tmp 76) 3,3,_,_,_⟩ ?_ rfl ?zq10 (hS0) ?zq11;(case zq10=>intro _ s;clear s;go_simp;(try with_reducible rfl));(all_goals try go_frame);refine tE 6 ⟨some 78,Op.move (.tmp 8),3,_,_,_⟩ ?_ rfl ?zq12 (hS0) ?zq13;(case zq12=>intro _ s;clear s;go_simp;(try with_reducible rfl));(all_goals try go_frame);refine tE 7 ⟨some 79,Op.binOp BinOp.mul 3 (Operand.const (Value.int IntKind.i64 7)) (.tmp 78) 3,3,_,_,_⟩ ?_ rfl ?zq14 (hS0) ?zq15;(case zq14=>intro _ s;clear s;go_simp;(try with_reducible rfl));(all_goals try go_frame);refine tE 8 ⟨some 80,Op.binOp BinOp.add 3 (.tmp 77) (.tmp 79) 3,3,_,_,_⟩ ?_ rfl ?zq16 (hS0) ?zq17;(case zq16=>intro _ s;clear s;go_simp;(try with_reducible rfl));(all_goals try go_frame);refine tD 9 ⟨some 81,Op.call {callee:=Callee.value (Operand.func 94),args:=#[Operand.tmp 74,Operand.tmp 80],argTypes:=#[22,3]},36,_,_,_⟩ rfl fun K hK=>?_
     go_simp;go_at_call 94;refine HT2.out.mono ?_;rintro e w6 ⟨A8,c8,B8,d8,ls2,ns2,rfl,hg2,hN2,hb6⟩;go_simp;have hS6:w6.cell? ⟨B+1,3,none⟩=some (.slice A7 (q+1) c7):=((HIB8.out.s.to hb6).cell 3 rfl);have HB6:=Lh hb6;have HG2:=Lh hg2;have HN2:=Lh hN2;clear hb6 hg2 hN2;refine hK _ _ (fun _=>?_) ?_
     ·exact hS6
     clear hK K;(try go_frame);refine tD 10 ⟨some 82,Op.buildSlice 72 1 #[(0,.tmp 81)],72,_,_,_⟩ rfl fun K hK=>?_
     go_simp;have hb7:Below w6.heap.size w6 (w6.alloc (.cells #[.slice A8 ls2.length c8,.slice B8 ns2.length d8] 36)):=bR.alloc nL _;have HB7:=Lh (HB6.out.trans (hb7.mono HB6.out.size));have hl7:=heap_alloc_new w6 (.cells #[.slice A8 ls2.length c8,.slice B8 ns2.length d8] 36);have HN7:=Lh (Rep.keep (Rep.mono (S':=fun b=>W8.heap.size≤b) HN2.out (fun _ h _=>h)) (Kept.all hb7));have hS7:(w6.alloc (.cells #[.slice A8 ls2.length c8,.slice B8 ns2.length d8] 36)).cell? ⟨B+1,3,none⟩=some (.slice A7 (q+1) c7):=((HIB8.out.s.to HB7.out).cell 3 rfl);have HL7:=Lh hl7;obtain⟨b7,hbe7⟩:∃b7,w6.heap.size=b7:=⟨_,rfl⟩;rw[hbe7] at HL7 ⊢;clear hb7 hl7 hS6 HN2 HB6 hbe7;generalize w6.alloc (.cells #[.slice A8 ls2.length c8,.slice B8 ns2.length d8] 36)=w7 at*;refine hK _ _ (fun _=>?_) ?_
     ·exact hS7
     clear hK K;(try go_frame);refine tD 11 ⟨some 83,Op.call {callee:=Callee.builtin Builtin.append,args:=#[Operand.tmp 73,Operand.tmp 82],argTypes:=#[72,72]},72,_,_,_⟩ rfl fun K hK=>?_
     have hvt:(Value.slice A7 (q+1) c7).ownBlock=(Value.slice A7 ts.length c7).ownBlock:=by rw[HTN.out]
     have hown7:OwnP w7 B 36 (.slice A7 ts.length c7) ts (fun b=>B≤b∧b≠B+1∧some b≠(Value.slice (some ⟨g,0,none⟩) (vs.length+1) cap).ownBlock):=(by rw[HTN.out];exact HIB8.out.t.below HB7.out);rw[←HTN.out];have htl:ts.length≤10:=by rw[HTN.out];omega
     refine Qb2 w7 (α:=Av TextP (fun b=>B≤b∧b≠B+1∧some b≠(Value.slice (some ⟨g,0,none⟩) (vs.length+1) cap).ownBlock)) (.tmp 73) (.tmp 82) 72 rfl B 36 (.agg #[.slice none 0 0,.slice none 0 0]) 48 Tryz.underlying72 QeS rfl (show 0<2 by decide) (.slice A7 ts.length c7) (ts.map Av.mk) rfl hown7.own b7 _ ⟨⟨ls2,ns2⟩⟩ (0,0) _ rfl HL7.out (show Rep.R w7 (fun b=>some b≠(Value.slice A7 ts.length c7).ownBlock∧(B≤b∧b≠B+1∧some b≠(Value.slice (some ⟨g,0,none⟩) (vs.length+1) cap).ownBlock)) [.slice A8 ls2.length c8,.slice B8 ns2.length d8] (⟨ls2,ns2⟩:TextP) from Rep.mono HN7.out (fun i (hi:W8.heap.size≤i) _=>⟨fun e=>by have:=(HIB8.out.t.lt i (by rw[hvt];exact e.symm)).2;omega,by have:=HB8.out;omega,by have:=HB8.out;omega,fun e=>by have:=(HIB8.out.v.lt i e.symm).2;omega⟩)) (by rw[qM];omega) (by rw[qM];omega) (by have:=HB7.out.size;have:=HB8.out;omega) _ rfl ?_;rw[qM];intro g9 cap9 w9 ho9 hg9 hat9 hlt9;have hs9:=HIB8.out.secT HB7.out (hvt▸hg9);have x3:=hs9.cell 3 rfl;have f3:=hs9.fz 3;have hS9:w9.cell? ⟨B+1,3,none⟩=some (.slice A7 (q+1) c7):=x3;have HIB9:=Lh (HIB8.out.pushT (v':=.slice (some ⟨g9,0,none⟩) (ts.length+1) cap9) (ts':=ts++[⟨ls2,ns2⟩]) (by have:=HB8.out;omega) HB7.out (by rw[List.map_append];exact ho9) (hvt▸hg9) (hvt▸hat9) rfl (fun t ht=>(List.mem_append.1 ht).elim (HIB8.out.g t) (fun h=>by rw[List.mem_singleton] at h;subst h;exact HG2.out)));clear hs9 ho9 hg9 hat9 hlt9 hS7 hown7;refine hK _ _ (fun _=>?_) ?_
     ·exact hS9
     clear hK K;(try go_frame);refine tE 12 ⟨some 84,Op.fieldAddr 74 (.tmp 7) 3,0,_,_,_⟩ ?_ rfl ?zq18 (hS9) ?zq19;(case zq18=>intro _ s;clear s;go_simp;(try with_reducible rfl));(all_goals try go_frame);refine tD 13 ⟨none,Op.store 72 (.tmp 84) (.tmp 83),0,_,_,_⟩ rfl fun K hK=>?_
     clear hS9;go_simp;refine hK _ _ (fun h=>absurd h (by decide)) ?_;clear hK K;(try simp only[Act.put]);refine Qae (by kernel_rfl) ?_ _;unfold Exit.then;clear x3 f3;go_wp2_with fail;go_roundw
     case rel=>exact⟨q+1,by omega,by go_num,fun h=>absurd h (by decide),_,_,_,by
      have h:=HIB9.out
      rw[←HVS.out,←HVN.out,versG_succ] at h
      exact h,by rw[qA,HTN.out];rfl⟩
     case measure=>(first|(simp[intOf];done)|(simp[intOf];omega))
    ·have HNQ:=Lh hqr;by_cases hqr1:q<r
     ·have hft:fr=false:=by
       cases hf:fr with
       |false=>rfl
       |true=>exact absurd ⟨hqr1,hf⟩ HNQ.out
      have hqr2:(q:Int)<r:=(by omega);clear hqr;subst hft;obtain⟨A6,c6,hv6,-,-⟩:=HIB.out.v.form;obtain⟨A7,c7,hv7,-,-⟩:=HIB.out.t.len;subst hv6 hv7;obtain⟨A9,c9,hv9,-,-⟩:=HOBx.out.o.len;subst hv9;have hln:(QbU k q).length=q+1:=Qbg k q;have HGS:Hid (GSect f k ⟨en,false,QbU k q,ts⟩):=Lh ⟨HEN.out,HFR.out.symm,q,hq,HFQ.out,rfl,HTN.out,HIB.out.g⟩;obtain⟨vs,hvs⟩:∃vs,QbU k q=vs:=⟨_,rfl⟩;rw[hvs] at HIB hln HGS;have hvl:vs.length≤10:=(by omega);have htl:ts.length≤10:=(by have:=HTN.out;omega);have hsl:ss.length≤10:=(by have:=HOBx.out.n;omega);have i0:=HIB.out.s.cell 0 rfl;have i2:=HIB.out.s.cell 2 rfl;have i3:=HIB.out.s.cell 3 rfl;have b2:=HOBx.out.b.cell 2 rfl;have hba:Below wr.heap.size wr (wr.alloc (.cells #[.int .i64 en,.bool false,.slice A6 vs.length c6,.slice A7 ts.length c7] 74)):=bR.alloc nL _;have HBA:=Lh hba;have HRE:=Lh (HIB.out.rep (v:=.slice A9 ss.length c9) (Y:=w.heap.size+1) HI.out.1 hba (by have:=HOB.out.lt;have:=HBw.out;omega) (fun g hg=>by have:=(HOB.out.o.lt g hg).2;have:=HBw.out;omega) hvl htl);clear hvs hln hba HIB HFQ HTN hq2 hq0
      go_upto_region 6 with(first|(at_builtin;refine Qav (α:=Av SectP (fun i=>w.heap.size+1<i)) _ rfl (.tmp 86) (.tmp 88) 23 rfl w.heap.size 74 (.agg #[.int .i64 0,.bool false,.slice none 0 0,.slice none 0 0]) 64 Tryz.underlying23 Qe2 rfl (show 0<4 by decide) _ (ss.map Av.mk) rfl (HOBx.out.o.own.alloc _) wr.heap.size _ ⟨⟨en,false,vs,ts⟩⟩ (0,0) 74 rfl (heap_alloc_new wr _) HRE.out (by rw[qM];omega) (by rw[qM];omega) (by have:=HOBx.out.bl.size;simp;omega) _ rfl ?_;rw[qM];intro g cap w5 hown5 hg5 hat5 hlt5;have hs5:=HOBx.out.book HBA.out hg5;have x2:=hs5.cell 2 rfl;have f2:=hs5.fz 2;have HOB5:=Lh (HOBx.out.push (v':=.slice (some ⟨g,0,none⟩) (ss.length+1) cap) HBA.out HGS.out (by rw[List.map_append];exact hown5) hg5 hat5 rfl);clear hs5 hown5 hg5 hat5 hlt5)|fail)
      clear x2 f2 i0 i1 i2 i3 b2;go_wp2_with fail;go_roundw;(case rel=>exact⟨k+1,by omega,by go_num,_,_,HOB5.out⟩);case measure=>(first|(simp[intOf];done)|(simp[intOf];omega))
     ·have hqr2:¬(q:Int)<r:=by omega
      clear hqr;obtain⟨A6,c6,hv6,-,-⟩:=HIB.out.v.form;obtain⟨A7,c7,hv7,-,-⟩:=HIB.out.t.len;subst hv6 hv7;obtain⟨A9,c9,hv9,-,-⟩:=HOBx.out.o.len;subst hv9;have hln:(QbU k q).length=q+1:=Qbg k q;have HGS:Hid (GSect f k ⟨en,fr,QbU k q,ts⟩):=Lh ⟨HEN.out,HFR.out.symm,q,hq,HFQ.out,rfl,HTN.out,HIB.out.g⟩;obtain⟨vs,hvs⟩:∃vs,QbU k q=vs:=⟨_,rfl⟩;rw[hvs] at HIB hln HGS;have hvl:vs.length≤10:=(by omega);have htl:ts.length≤10:=(by have:=HTN.out;omega);have hsl:ss.length≤10:=(by have:=HOBx.out.n;omega);have i0:=HIB.out.s.cell 0 rfl;have i2:=HIB.out.s.cell 2 rfl;have i3:=HIB.out.s.cell 3 rfl;have b2:=HOBx.out.b.cell 2 rfl;have hba:Below wr.heap.size wr (wr.alloc (.cells #[.int .i64 en,.bool fr,.slice A6 vs.length c6,.slice A7 ts.length c7] 74)):=bR.alloc nL _;have HBA:=Lh hba;have HRE:=Lh (HIB.out.rep (v:=.slice A9 ss.length c9) (Y:=w.heap.size+1) HI.out.1 hba (by have:=HOB.out.lt;have:=HBw.out;omega) (fun g hg=>by have:=(HOB.out.o.lt g hg).2;have:=HBw.out;omega) hvl htl);clear hvs hln hba HIB HFQ HTN hq2 hq0
      go_upto_region 6 with(first|(at_builtin;refine Qav (α:=Av SectP (fun i=>w.heap.size+1<i)) _ rfl (.tmp 86) (.tmp 88) 23 rfl w.heap.size 74 (.agg #[.int .i64 0,.bool false,.slice none 0 0,.slice none 0 0]) 64 Tryz.underlying23 Qe2 rfl (show 0<4 by decide) _ (ss.map Av.mk) rfl (HOBx.out.o.own.alloc _) wr.heap.size _ ⟨⟨en,fr,vs,ts⟩⟩ (0,0) 74 rfl (heap_alloc_new wr _) HRE.out (by rw[qM];omega) (by rw[qM];omega) (by have:=HOBx.out.bl.size;simp;omega) _ rfl ?_;rw[qM];intro g cap w5 hown5 hg5 hat5 hlt5;have hs5:=HOBx.out.book HBA.out hg5;have x2:=hs5.cell 2 rfl;have f2:=hs5.fz 2;have HOB5:=Lh (HOBx.out.push (v':=.slice (some ⟨g,0,none⟩) (ss.length+1) cap) HBA.out HGS.out (by rw[List.map_append];exact hown5) hg5 hat5 rfl);clear hs5 hown5 hg5 hat5 hlt5)|fail)
      clear x2 f2 i0 i1 i2 i3 b2;go_wp2_with fail;go_roundw;(case rel=>exact⟨k+1,by omega,by go_num,_,_,HOB5.out⟩);case measure=>(first|(simp[intOf];done)|(simp[intOf];omega))
  ·obtain rfl:k=n:=by omega
   obtain⟨A9,c9,hv9,-,-⟩:=HOB.out.o.len;subst hv9;have b0:=HOB.out.b.cell 0 rfl;have b1:=HOB.out.b.cell 1 rfl;have b2:=HOB.out.b.cell 2 rfl;have r0:=HOB.out.r.cell 0 rfl;have r1:=HOB.out.r.cell 1 rfl;have r2:=HOB.out.r.cell 2 rfl;have f0:=HOB.out.r.fz 0;have f1:=HOB.out.r.fz 1;have f2:=HOB.out.r.fz 2;have hsl:ss.length≤10:=(by have:=HOB.out.n;omega);go_wp2_with fail
   refine bodyPost_ret (v:=.agg #[.int .i64 m,.int .i64 h,.slice A9 ss.length c9]) (Qbx Tryz.results45 _ _ w.heap.size _ [.int .i64 m,.int .i64 h,.slice A9 ss.length c9] _ rfl (abox3 HOB.out.r _ _ _) Tryz.underlying25 rfl (by kernel_rfl)) rfl ⟨m,h,A9,c9,ss,rfl,⟨HM.out.1.1,HM.out.1.2,HM.out.2.1,HM.out.2.2,by have:=HOB.out.n;omega,f,HOB.out.g⟩,?_,below3 HOB.out.bl nL _ _ _⟩
   obtain⟨A10,c10,e10,hsl10⟩:=HOB.out.o.sl;cases e10;refine(hsl10.keep (w':=_) ?_ (by simp)).mono (fun i (hi:w.heap.size+1<i) hl=>⟨by omega,hl⟩);intro i (hi:w.heap.size+1<i) _;exact(Qac _ _ _ _ (by omega)).trans ((Qac _ _ _ _ (by omega)).trans (Qac _ _ _ _ (by omega)))
structure TM (w:World)(A:Option Addr)(c:Nat)(B:Option Addr)(d:Nat)(a b:List (List Word)):Prop where
 ta:Sl w (fun b=>b<w.heap.size) A c a
 tb:Sl w (fun b=>b<w.heap.size) B d b
 sa:QbP a
 sb:QbP b

structure Tame (l:List SectP):Prop where
 n:l.length≤5
 v:∀s∈l,s.vers.length≤4∧s.texts.length≤s.vers.length∧∀t∈s.texts,GText t.a t.b
structure Siz (m h:Int):Prop where
 m1:500≤m
 m2:m≤2000
 h1:4≤h
 h2:h≤100
theorem GBk.siz {m h:Int}{l:List SectP}(H:GBk m h l):Siz m h:=⟨H.m1,by have:=H.m2;omega,H.h1,by have:=H.h2;omega⟩
theorem GBk.tame {m h:Int}{l:List SectP}(H:GBk m h l):Tame l:=by
 refine⟨by have:=H.n;omega,fun s hs=>?_⟩;obtain⟨f,hf⟩:=H.s;obtain⟨i,hi,rfl⟩:=List.getElem_of_mem hs;obtain⟨-,-,j,hj,-,hv,ht,hg⟩:=hf i hi;exact⟨by rw[hv,Qbg];omega,by rw[hv,Qbg,ht];omega,hg⟩
theorem Tame.short {l:List SectP}(H:Tame l):QbX l:=
 ⟨by have:=H.n;omega,fun s hs=>⟨by have:=(H.v s hs).1;omega,by have:=(H.v s hs).1;have:=(H.v s hs).2.1;omega,fun t ht=>((H.v s hs).2.2 t ht).short⟩⟩
theorem Tame.wf {l:List SectP}(H:Tame l):WfS l:=fun s hs=>(H.v s hs).2.1
theorem versB_tame {m h entry:Int}(hz:Siz m h):∀(ts:List TextP) (k:Nat) (num suf:Int) (vs:List Int),(∀t∈ts,GText t.a t.b)→(QaJ m h entry k num suf vs ts).length≤196*ts.length
 |[],_,_,_,_,_=>by simp[QaJ]
 |t::ts,k,num,suf,vs,hg=>by
  rw[QaJ,qA,QbL,qC];have h1:=((hg t (by simp)).pages ⟨hz.m1,hz.m2⟩ ⟨hz.h1,hz.h2⟩).2;have h2:=versB_tame (entry:=entry) hz ts (k+1) (if k=0 then num+(Qag t.a t.b m h).length else num) (if k=0 then suf else suf+(Qag t.a t.b m h).length) vs.tail (fun x hx=>hg x (by simp[hx]));omega
theorem Qea {m h:Int}(hz:Siz m h):∀(l:List SectP) (num:Int),(∀s∈l,s.texts.length≤4∧∀t∈s.texts,GText t.a t.b)→(Qay m h num l).length≤784*l.length
 |[],_,_=>by simp[Qay]
 |s::l,num,hs=>by
  rw[Qay,qA,qC];have h1:=versB_tame (entry:=s.entry) hz s.texts 0 num 0 s.vers (hs s (by simp)).2;have h2:=Qea hz l (num+QaE m h s) (fun x hx=>hs x (by simp[hx]));have h3:=(hs s (by simp)).1;omega
theorem Tame.pages {m h:Int}{l:List SectP}(H:Tame l)(hz:Siz m h):(Qak m h l).length≤3920:=by
 have h1:=Qea hz l 0 (fun s hs=>⟨by have:=(H.v s hs).1;have:=(H.v s hs).2.1;omega,(H.v s hs).2.2⟩);have h2:=H.n;unfold Qak;omega
theorem SM.bookT {w:World}{A:Option Addr}{c:Nat}{l:List SectP}{m h:Int}(hm:SM w A c l)(hl:Tame l)(hz:Siz m h):BookOk w m h A c l:=⟨hm.t.1,hm.s,hl.short,hl.wf,⟨by have:=hz.h1;omega,by have:=hz.h2;omega⟩,by have:=hl.pages hz;omega⟩
theorem not_take {l:List Int}(h:l.Nodup){q:Nat}(hq:q<l.length):l[q]∉l.take q:=by
 intro hm;obtain⟨i,hi,e⟩:=List.getElem_of_mem hm;rw[qK] at hi;rw[List.getElem_take] at e;exact List.pairwise_iff_getElem.1 h i q (by omega) hq (by omega) e
structure CoreP where
 entry:Int
 ver:Int
 body:List LineP
 notes:List LineP
def PageP.core (p:PageP):CoreP:=⟨p.entry,p.ver,p.body,p.notes⟩
def coreT (e v:Int)(p:PageP):CoreP:=⟨e,v,p.body,p.notes⟩
def coreV (m h e:Int):List Int→List TextP→List CoreP
 |_,[]=>[]
 |vs,t::ts=>(Qag t.a t.b m h).map (coreT e (vs.headD 0))++coreV m h e vs.tail ts
def coreS (m h:Int)(l:List SectP):List CoreP:=l.flatMap fun s=>coreV m h s.entry s.vers s.texts
theorem Qd8 (e v:Int):∀(ps:List PageP) (num suf:Int) (k:Nat),(QaQ e v num suf k ps).map PageP.core=ps.map (coreT e v)
 |[],_,_,_=>by simp[QaQ]
 |p::ps,num,suf,k=>by
  rw[Qbr,List.map_cons,List.map_cons,Qd8];rfl
theorem versB_core (m h e:Int):∀(ts:List TextP) (k:Nat) (num suf:Int) (vs:List Int),(QaJ m h e k num suf vs ts).map PageP.core=coreV m h e vs ts
 |[],_,_,_,_=>by simp[QaJ,coreV]
 |t::ts,k,num,suf,vs=>by
  rw[QaJ,List.map_append,Qd8,versB_core m h e ts];rfl
theorem QeM (m h:Int):∀(l:List SectP) (num:Int),(Qay m h num l).map PageP.core=coreS m h l
 |[],_=>rfl
 |s::l,num=>by
  rw[Qay,List.map_append,versB_core,QeM m h l];rfl
theorem Qei (m h:Int)(l:List SectP):(Qak m h l).map PageP.core=coreS m h l:=QeM m h l 0
theorem QdE (P:LineP→Prop)(notes:List (List LineP))(hn:∀n∈notes,∀x∈n,P x)(h:Nat):∀(f:Nat) (body queue:List LineP),(∀x∈body,P x)→(∀x∈queue,P x)→∀p∈setPages notes h f body queue,(∀x∈p.body,P x)∧∀x∈p.notes,P x
 |0,_,_,_,_=>by simp[setPages]
 |f+1,body,queue,h1,h2=>by
  obtain⟨k,a,b,c,d,e⟩:=QbO notes h body 0 (min queue.length (h-1)) queue (Nat.min_le_left _ _);have hq:∀x∈(fillP notes h body 0 (min queue.length (h-1)) queue).2.2,P x:=by
   rw[d];intro x hx;rcases List.mem_append.1 hx with hx|hx
   ·exact h2 x hx
   ·obtain⟨y,-,hy⟩:=List.mem_flatMap.1 hx;unfold Qad at hy;obtain⟨q,-,hq⟩:=List.mem_flatMap.1 hy;by_cases hl:q.toNat<notes.length
    ·rw[List.getD_eq_getElem?_getD,qG hl] at hq;exact hn _ (List.getElem_mem hl) x hq
    ·rw[List.getD_eq_getElem?_getD,List.getElem?_eq_none (by omega)] at hq;simp at hq
  intro p hp;rw[setPages] at hp;split at hp
  ·simp at hp
  ·rcases List.mem_cons.1 hp with rfl|hp
   ·exact⟨fun x hx=>h1 x (List.mem_of_mem_take hx),fun x hx=>hq x (List.mem_of_mem_take hx)⟩
   ·exact QdE P notes hn h f _ _ (fun x hx=>h1 x (List.mem_of_mem_drop hx)) (fun x hx=>hq x (List.mem_of_mem_drop hx)) p hp
theorem versG_nodup (i j:Nat)(hi:i≤3)(hj:j≤2):(QbU i j).Nodup:=by
 unfold QbU;refine List.nodup_cons.2 ⟨fun hm=>?_,?_⟩
 ·obtain⟨k,hk,e⟩:=List.mem_map.1 hm;have:=List.mem_range.1 hk;omega
 ·rw[List.nodup_iff_pairwise_ne,List.pairwise_map];refine List.Pairwise.imp_of_mem (R:=(· < ·)) (fun {a b} _ _ hab=>?_) List.pairwise_lt_range;omega
theorem versG_range {i j:Nat}(hi:i≤3)(hj:j≤2):∀v∈QbU i j,0≤v∧v≤2147483647:=by
 intro v hv;unfold QbU at hv;rcases List.mem_cons.1 hv with rfl|hv
 ·omega
 ·obtain⟨k,hk,rfl⟩:=List.mem_map.1 hv;rw[List.mem_range] at hk;omega
structure ChkS (f k:Nat)(l:List SectP)(s:SectP):Prop where
 e0:0≤s.entry
 e1:s.entry≤65535
 fd:QbB l s.entry=(k:Int)
 fr:s.frozen=decide (k<f)
 n1:1≤s.vers.length
 n3:s.vers.length≤3
 nt:s.texts.length=s.vers.length
 nf:s.frozen=false→s.vers.length=1
 rg:∀v∈s.vers,0≤v∧v≤2147483647
 nd:s.vers.Nodup
 g:∀t∈s.texts,GText t.a t.b
theorem GBk.chk {m h:Int}{l:List SectP}(H:GBk m h l):∃f,∀k (hk:k<l.length),ChkS f k l l[k]:=by
 obtain⟨f,hf⟩:=H.s;have hn:=H.n;refine⟨f,fun k hk=>?_⟩;obtain⟨⟨d,hd,he⟩,h2,j,h3,h4,h5,h6,h7⟩:=hf k hk;have hvl:l[k].vers.length=j+1:=by rw[h5,Qbg]
 refine⟨by omega,by omega,QeA hk rfl fun i hi e=>?_,h2,by omega,by omega,by omega,fun hfr=>by have:=h4 hfr;omega,by rw[h5];exact versG_range (by omega) h3,by rw[h5];exact versG_nodup k j (by omega) h3,h7⟩;obtain⟨⟨d2,hd2,he2⟩,-⟩:=hf i (by omega);omega
theorem GBk.noerr {m h:Int}{l:List SectP}(H:GBk m h l):chkE m h l=0:=by
 obtain⟨f,hf⟩:=H.chk;have hz:=H.siz
 have hu:UptoS m h l l.length:=fun k hk _=>by
  have hc:=hf k hk;refine OkS.sec ⟨⟨hc.e0,hc.e1⟩,by rw[hc.fd];omega,fun h=>?_,by have:=hc.n1;omega,hc.nt.symm,fun h=>by have:=hc.nf h.2;omega,by have:=hc.n3;omega,UptoV.all hc.nt.symm fun q hq ht _=>?_⟩
  ·have h1:k<f:=of_decide_eq_true (hc.fr▸h.1);have h2:=h.2;unfold openB at h2;obtain⟨x,hx,h3⟩:=List.any_eq_true.1 h2;obtain⟨j,hj,rfl⟩:=List.getElem_of_mem hx;rw[qK] at hj;rw[List.getElem_take] at h3;have h4:=(hf j (by omega)).fr;rw[decide_eq_true (show j<f by omega)] at h4;rw[h4] at h3;exact absurd h3 (by decide)
  ·unfold verX;rw[if_neg (not_not_intro (hc.rg _ (List.getElem_mem hq))),if_neg (not_take hc.nd hq)];exact(hc.g _ (List.getElem_mem ht)).wrong ⟨hz.m1,hz.m2⟩ ⟨hz.h1,hz.h2⟩
 rw[hu.all ⟨hz.m1,hz.m2⟩ ⟨hz.h1,hz.h2⟩,if_neg (by have:=H.tame.pages hz;omega)]
structure GoodS (m h:Int)(s:SectP):Prop where
 e:0≤s.entry∧s.entry≤65535
 n:s.vers.length≠0
 nt:s.vers.length=s.texts.length
 nf:s.frozen=false→s.vers.length≤1
 lim:s.vers.length≤100
 r:∀v∈s.vers,0≤v∧v≤2147483647
 d:s.vers.Nodup
 w:∀t∈s.texts,Qbo m h t.a t.b=0
structure GoodB (m h:Int)(l:List SectP):Prop where
 gm:500≤m∧m≤2000
 gh:4≤h∧h≤100
 s:∀s∈l,GoodS m h s
 d:(l.map (·.entry)).Nodup
 f:l.Pairwise fun a b=>b.frozen=true→a.frozen=true
 p:(Qak m h l).length≤16384
theorem versE_zero {m h:Int}{s:SectP}(hn:s.vers.length=s.texts.length)(H:versE m h s=0):(∀v∈s.vers,0≤v∧v≤2147483647)∧s.vers.Nodup∧∀t∈s.texts,Qbo m h t.a t.b=0:=by
 have h1:∀q (hq:q<s.vers.length),(0≤s.vers[q]∧s.vers[q]≤2147483647)∧s.vers[q]∉s.vers.take q∧Qbo m h (s.texts[q]'(by omega)).a (s.texts[q]'(by omega)).b=0:=fun q hq=>by
  have h2:=QcO H q hq;have ht:q<s.texts.length:=(by omega);rw[List.getD_eq_getElem?_getD,qG hq,List.getD_eq_getElem?_getD,qG ht] at h2;simp only[Option.getD_some] at h2;unfold verX at h2;split at h2
  ·exact absurd h2 (by decide)
  ·rename_i h3;split at h2
   ·exact absurd h2 (by decide)
   ·rename_i h4;exact⟨Decidable.not_not.1 h3,h4,h2⟩
 refine⟨fun v hv=>?_,?_,fun t ht=>?_⟩
 ·obtain⟨q,hq,rfl⟩:=List.getElem_of_mem hv;exact(h1 q hq).1
 ·rw[List.nodup_iff_pairwise_ne,List.pairwise_iff_getElem];intro i j hi hj hij e;refine(h1 j hj).2.1 (List.mem_iff_getElem.2 ⟨i,by rw[qK];omega,?_⟩);rw[List.getElem_take];exact e
 ·obtain⟨q,hq,rfl⟩:=List.getElem_of_mem ht;exact(h1 q (by omega)).2.2
theorem findP_le {l:List SectP}{e:Int}{i:Nat}(hi:i<l.length)(he:l[i].entry=e):QbB l e≤(i:Int):=by
 rcases QeC l e with h|⟨k,hk,h,-⟩
 ·rw[h];omega
 ·rw[h];by_cases hik:k≤i
  ·omega
  ·exfalso
   have h2:l.findIdx (fun s=>decide (s.entry=e))=k:=by
    unfold QbB at h;split at h<;>omega
   have h3:=List.not_of_lt_findIdx (p:=fun s:SectP=>decide (s.entry=e)) (xs:=l) (i:=i) (by omega);simp[he] at h3
theorem chkE_good {m h:Int}{l:List SectP}(H:chkE m h l=0):GoodB m h l:=by
 unfold chkE at H;split at H
 ·exact absurd H (by decide)
 rename_i h1;split at H
 ·exact absurd H (by decide)
 rename_i h2;split at H
 ·rename_i h3;exact absurd H h3
 rename_i h3;split at H
 ·exact absurd H (by decide)
 rename_i h4
 have h5:∀k (hk:k<l.length),OkS m h l k l[k]:=fun k hk=>by
  have:=QcO (Decidable.not_not.1 h3) k hk;rw[List.getD_eq_getElem?_getD,qG hk] at this;exact secX_ok this
 refine⟨Decidable.not_not.1 h1,Decidable.not_not.1 h2,fun s hs=>?_,?_,?_,by omega⟩
 ·obtain⟨k,hk,rfl⟩:=List.getElem_of_mem hs;have H:=h5 k hk;obtain⟨r,d,w⟩:=versE_zero H.nt H.v;exact⟨H.e,H.n,H.nt,fun hf=>by have:=H.nf;have h9:¬1<l[k].vers.length:=fun h9=>this ⟨h9,hf⟩;omega,by have:=H.lim;omega,r,d,w⟩
 ·rw[List.nodup_iff_pairwise_ne,List.pairwise_iff_getElem];intro i j hi hj hij e;rw[qM] at hi hj;rw[List.getElem_map,List.getElem_map] at e;have:=findP_le hi e;have:=(h5 j hj).f;omega
 ·rw[List.pairwise_iff_getElem];intro i j hi hj hij e;have h6:=(h5 j hj).o;cases hfi:l[i].frozen
  ·exfalso;refine h6 ⟨e,?_⟩;unfold openB;exact List.any_eq_true.2 ⟨l[i],List.mem_iff_getElem.2 ⟨i,by rw[qK];omega,List.getElem_take ..⟩,by rw[hfi];rfl⟩
  ·rfl
theorem GoodB.set {m h:Int}{l:List SectP}{k:Nat}(H:GoodB m h l)(hk:k<l.length){s:SectP}(he:s.entry=l[k].entry)(hfr:s.frozen=l[k].frozen)(hs:GoodS m h s)(hp:(Qak m h (l.set k s)).length≤16384):GoodB m h (l.set k s):=by
 refine⟨H.gm,H.gh,fun x hx=>?_,?_,?_,hp⟩
 ·rcases List.mem_or_eq_of_mem_set hx with h1|h1
  ·exact H.s x h1
  ·subst h1;exact hs
 ·have:(l.set k s).map (·.entry)=l.map (·.entry):=by
   rw[List.map_set,he];have h1:l[k].entry=(l.map (·.entry))[k]'(by rw[qM];exact hk):=(by rw[List.getElem_map]);rw[h1,List.set_getElem_self]
  rw[this];exact H.d
 ·have hf:(l.map (·.frozen)).Pairwise fun a b=>b=true→a=true:=List.pairwise_map.2 H.f
  have:(l.set k s).map (·.frozen)=l.map (·.frozen):=by
   rw[List.map_set,hfr];have h1:l[k].frozen=(l.map (·.frozen))[k]'(by rw[qM];exact hk):=(by rw[List.getElem_map]);rw[h1,List.set_getElem_self]
  rw[←this] at hf;exact List.pairwise_map.1 hf
theorem GoodS.corr {m h v:Int}{s:SectP}{t:TextP}(H:GoodS m h s)(hv:0≤v∧v≤2147483647)(hn:v∉s.vers)(hw:Qbo m h t.a t.b=0)(hl:(QaO s v t).vers.length≤100):GoodS m h (QaO s v t):=by
 have h1:(QaO s v t).vers=(if s.frozen then s.vers else[])++[v]:=rfl;have h2:(QaO s v t).texts=(if s.frozen then s.texts else[])++[t]:=rfl;have h3:(QaO s v t).frozen=s.frozen:=rfl;refine⟨H.e,by rw[h1];simp,?_,fun hf=>?_,hl,fun x hx=>?_,?_,fun x hx=>?_⟩
 ·rw[h1,h2];split
  ·simp[H.nt]
  ·simp
 ·rw[h3] at hf;rw[h1,hf];simp
 ·rw[h1] at hx;rcases List.mem_append.1 hx with h4|h4
  ·split at h4
   ·exact H.r x h4
   ·cases h4
  ·rw[List.mem_singleton] at h4;subst h4;exact hv
 ·rw[h1,List.nodup_append];refine⟨?_,by simp,fun a ha b hb=>?_⟩
  ·split
   ·exact H.d
   ·simp
  ·rw[List.mem_singleton] at hb;subst hb;split at ha
   ·exact fun e=>hn (e▸ha)
   ·cases ha
 ·rw[h2] at hx;rcases List.mem_append.1 hx with h4|h4
  ·split at h4
   ·exact H.w x h4
   ·cases h4
  ·rw[List.mem_singleton] at h4;subst h4;exact hw



section
variable {P:Program} {ops:Array Oper} {Q:Exit→Act→World→Prop} {md:Region.Mode} {C:World→Prop} {hs:List Nat} {Rl:World→World→Prop} {Φ:Nat→SPR Rl} {m:Nat}
def kindP (hs:List Nat)(m:Nat)(pre:List Nat)(k:Nat):Nat:=if Nat.beq k m then 2 else if pre.contains k then 3 else if hs.contains k then 1 else 0
def wpRP (P:Program)(md:Region.Mode)(ops:Array Oper)(C:World→Prop)(hs:List Nat){Rl:World→World→Prop}(Φ:Nat→SPR Rl)(m:Nat)(pre:List Nat)(fin:Act→(Nat→World→Prop)→Prop):List Oper→Nat→Act→(Nat→World→Prop)→Prop
 |[],_,a,G=>fin a G
 |o::l,k,a,G=>
  if kindP hs m pre k=2 then fin a G
  else if kindP hs m pre k=3 then wpRP P md ops C hs Φ m pre fin l (k+1) a G
  else if Region.wanted o (yielded ops a.tmps)=true then
   if kindP hs m pre k=1 then Safe P md ops C Φ k o a G∧∀v,Joint C G ((Φ k).p v)→wpRP P md ops C hs Φ m pre fin l (k+1) (a.put o.dst v) (Qd1 G k ((Φ k).p v))
   else o.quiet P a C (fun a'=>wpRP P md ops C hs Φ m pre fin l (k+1) a' G)
  else wpRP P md ops C hs Φ m pre fin l (k+1) (a.put o.dst undef) G
structure WP (P:Program)(md:Region.Mode)(ops:Array Oper)(C:World→Prop){Rl:World→World→Prop}(hs:List Nat)(Φ:Nat→SPR Rl)(m:Nat)(pre:List Nat)(fin:Act→(Nat→World→Prop)→Prop)(l:List Oper)(k:Nat)(a:Act)(G:Nat→World→Prop):Prop where
 h:wpRP P md ops C hs Φ m pre fin l k a G
def need (hs:List Nat)(m:Nat)(pre:List Nat):List Oper→Nat→Nat
 |[],_=>0
 |_::l,k=>if kindP hs m pre k=2 then 0 else if kindP hs m pre k=3 then need hs m pre l (k+1) else need hs m pre l (k+1)+1
end
section
variable {P:Program} {ops:Array Oper} {Q:Exit→Act→World→Prop} {md:Region.Mode} {C:World→Prop} {hs:List Nat} {Rl:World→World→Prop} {Φ:Nat→SPR Rl} {m:Nat} {pre:List Nat} {fin:Act→(Nat→World→Prop)→Prop} {T:Type} {f:T→World} {a:Act} {G:Nat→World→Prop} {o:Oper} {l:List Oper} {k:Nat}
end


def short (s:ByteArray)(m:Nat):ByteArray:=s.extract 0 (min s.size m)







def PE (O:Nat)(a b:Option Nat)(i:Nat):Prop:=O<i∧some i≠a∧some i≠b
structure PS (w0 w:World)(ob:Option Nat)(qv:Value)(queue:List LineP)(pv:Value)(pages:List PageP):Prop where
 bw:Below w0.heap.size w0 w
 q:Que w w0.heap.size 56 ob qv (queue.map (Av.mk:LineP→OldL w0.heap.size))
 pg:OwnP w w0.heap.size 43 pv pages (fun i=>w0.heap.size≤i∧some i≠ob)
structure PG (w0 w:World)(O:Nat)(ob:Option Nat)(qv:Value)(queue:List LineP)(pv:Value)(pages:List PageP)(bv:Value)(bl:List LineP)(nv:Value)(nl:List LineP):Prop where
 bw:Below w0.heap.size w0 w
 q:Que w w0.heap.size 56 ob qv (queue.map (Av.mk:LineP→OldL w0.heap.size))
 pg:OwnP w w0.heap.size 43 pv pages (fun i=>(w0.heap.size≤i∧i<O)∧some i≠ob)
 o:ABox w O 43 [.int .i64 0,.int .i64 0,.int .i64 0,.int .i64 0,bv,nv]
 oq:some O≠ob
 og:w0.heap.size≤O
 b:OwnP w (O+1) 56 bv bl (PE O ob nv.ownBlock)
 n:OwnP w (O+1) 56 nv nl (PE O ob bv.ownBlock)
section
variable {w0 w w':World} {O:Nat} {ob:Option Nat} {qv:Value} {queue:List LineP} {pv:Value} {pages:List PageP} {bv nv:Value} {bl nl:List LineP}
end


structure LB (w:World)(b:Nat)(A:Option Addr)(c:Nat)(l:List SectP):Prop where
 bx:ABox w b 25 [.int .i64 500,.int .i64 4,.slice A l.length c]
 sm:SM w A c l
theorem region_cut {P:Program}{c:Code}{a:Act}{w:World}{Q:Exit→Act→World→Prop}(R:Act→Act→World→Prop)(h1:c.wp P (fun e a' w'=>e=.normal∧R a a' w') a w)(h2:∀a' w',R a a' w'→Q .normal a' w'):c.wp P Q a w:=
 wp_mono h1 (fun e a' w' h=>by obtain⟨rfl,h⟩:=h;exact h2 a' w' h)
structure LM (m h:Int)(w:World)(b:Nat)(A:Option Addr)(c:Nat)(l:List SectP):Prop where
 bx:ABox w b 25 [.int .i64 m,.int .i64 h,.slice A l.length c]
 sm:SM w A c l
structure LT (w:World)(x:Nat)(A:Option Addr)(c:Nat)(B:Option Addr)(d:Nat)(a b:List (List Word)):Prop where
 bx:ABox w x 36 [.slice A a.length c,.slice B b.length d]
 tm:TM w A c B d a b






def hasT (l:List SectP)(e v:Int):Option TextP:=(l[l.findIdx (fun s=>decide (s.entry=e))]?).bind fun s=>s.texts[s.vers.findIdx (fun x=>decide (x=v))]?
theorem hasT_none1 {l:List SectP}{e v:Int}(h:QbB l e= -1):hasT l e v=none:=by
 unfold QbB at h;unfold hasT;split at h
 ·omega
 ·rename_i h1;rw[List.getElem?_eq_none (by omega)];rfl
theorem findP_idx {l:List SectP}{e:Int}{k:Nat}(h:QbB l e=(k:Int)):l.findIdx (fun s=>decide (s.entry=e))=k:=by
 unfold QbB at h;split at h<;>omega
theorem hasT_none2 {l:List SectP}{e v:Int}{k:Nat}{x:SectP}(h:QbB l e=(k:Int))(hk:k<l.length)(hx:l[k]=x)(ht:x.texts.length≤x.vers.length)(hn:idxP x.vers v= -1):hasT l e v=none:=by
 unfold hasT;rw[findP_idx h,qG hk,hx,Option.bind_some,List.getElem?_eq_none];unfold idxP at hn;split at hn<;>omega
theorem hasT_some {l:List SectP}{e v:Int}{k j:Nat}{x:SectP}(h:QbB l e=(k:Int))(hk:k<l.length)(hx:l[k]=x)(hj:j<x.texts.length)(hn:idxP x.vers v=(j:Int)):hasT l e v=some x.texts[j]:=by
 have hj1:x.vers.findIdx (fun x=>decide (x=v))=j:=by
  unfold idxP at hn;split at hn<;>omega
 unfold hasT;rw[findP_idx h,qG hk,hx,Option.bind_some,hj1,qG hj]
def TxtP (o:Option TextP)(e:Ending)(W':World):Prop:=∃Aa ca Ab cb,e=.returned (.tuple #[.agg #[.slice Aa (o.getD ⟨[],[]⟩).a.length ca,.slice Ab (o.getD ⟨[],[]⟩).b.length cb],.bool o.isSome])∧Sl W' (fun b=>b<W'.heap.size) Aa ca (o.getD ⟨[],[]⟩).a∧Sl W' (fun b=>b<W'.heap.size) Ab cb (o.getD ⟨[],[]⟩).b
theorem TxtP.no {o:Option TextP}(W':World)(h:o=none):TxtP o (.returned (.tuple #[.agg #[.slice none 0 0,.slice none 0 0],.bool false])) W':=by
 subst h;exact⟨none,0,none,0,rfl,Sl.nil _ _ _ _ (Nat.zero_le _),Sl.nil _ _ _ _ (Nat.zero_le _)⟩
theorem TxtP.yes {o:Option TextP}{z:TextP}{W':World}{Aa Ab:Option Addr}{ca cb:Nat}(h:o=some z)(h1:Sl W' (fun b=>b<W'.heap.size) Aa ca z.a)(h2:Sl W' (fun b=>b<W'.heap.size) Ab cb z.b):TxtP o (.returned (.tuple #[.agg #[.slice Aa z.a.length ca,.slice Ab z.b.length cb],.bool true])) W':=by
 subst h;exact⟨Aa,ca,Ab,cb,rfl,h1,h2⟩
theorem abox2 {w:World}{b:Nat}{t:TypeId}{x y:Value}(h:ABox w b t [x,y])(u v:Value):ABox ((w.setCell ⟨b,0,none⟩ u).setCell ⟨b,1,none⟩ v) b t [u,v]:=(h.set 0 u).set 1 v
theorem below2 {n b:Nat}{w w':World}(h:Below n w w')(hb:n≤b)(u v:Value):Below n w ((w'.setCell ⟨b,0,none⟩ u).setCell ⟨b,1,none⟩ v):=(h.setCell (p:=⟨b,0,none⟩) hb u).setCell (p:=⟨b,1,none⟩) hb v
def InL (n:Nat)(x:LineP):Prop:=0≤x.fr∧x.fr<x.un∧x.un≤n
theorem lines_in (ws:List Word)(wd:List Int)(m first:Int)(N:Nat)(h0:0≤first)(hN:first+ws.length≤N):∀(es:List Nat) (i:Nat),endsF i ws.length es→∀x∈QaA ws wd m first i es,InL N x
 |[],i,_=>by simp[QaA]
 |e::es,i,⟨h1,h2,h3⟩=>by
  rw[QaA];intro x hx;rcases List.mem_cons.1 hx with rfl|hx
  ·exact⟨by show 0≤first+(i:Int);omega,by show first+(i:Int)<first+(e:Int);omega,by show first+(e:Int)≤N;omega⟩
  ·exact lines_in ws wd m first N h0 hN es e h3 x hx
theorem parts_in (m:Int)(N:Nat):∀(l:List (List Word)) (first:Int),0≤first→first+(tot l:Nat)≤N→(∀p∈l,Reg (Qah p) m)→∀q∈Qaz m first l,∀x∈q,InL N x
 |[],first,_,_,_=>by simp[Qaz]
 |p::l,first,h0,h1,h2=>by
  have ht:tot (p::l)=p.length+tot l:=(by unfold tot;simp);rw[ht] at h1;rw[Qaz];intro q hq;rcases List.mem_cons.1 hq with rfl|hq
  ·unfold setP;exact lines_in p (Qah p) m first N h0 (by omega) _ 0 (Qdw (h2 p (by simp)))
  ·exact parts_in m N l (first+p.length) (by omega) (by omega) (fun q hq=>h2 q (by simp[hq])) q hq
theorem okPages_in {a b:List (List Word)}{m h:Int}:∀p∈Qag a b m h,∀x∈p.body++p.notes,InL (tot (a++b)) x:=by
 unfold Qag;split
 ·rename_i hE;obtain⟨hf,⟨h1,h2⟩,hp⟩:=Qba hE;intro p hp x hx;unfold QaP at hp;have ht:=Qbd a b;have hr:∀p∈a++b,Reg (Qah p) m:=fun p hp=>hf.reg h1 h2 hp
  have hb:∀x∈QaX a m,InL (tot (a++b)) x:=fun x hx=>by
   unfold QaX at hx;obtain⟨q,hq,hxq⟩:=List.mem_flatten.1 hx;exact parts_in m (tot (a++b)) a 0 (Int.le_refl _) (by omega) (fun p hp=>hr p (List.mem_append_left _ hp)) q hq x hxq
  have hn:∀n∈Qau a b m,∀x∈n,InL (tot (a++b)) x:=fun n hn x hx=>by
   unfold Qau at hn;exact parts_in m (tot (a++b)) b (tot a:Nat) (by omega) (by omega) (fun p hp=>hr p (List.mem_append_right _ hp)) n hn x hx
  have:=QdE (InL (tot (a++b))) (Qau a b m) hn h.toNat (Qaq (QaX a m) (Qau a b m)) (QaX a m) [] hb (by simp) p hp;rcases List.mem_append.1 hx with hx|hx
  ·exact this.1 x hx
  ·exact this.2 x hx
 ·intro p hp;simp at hp
theorem coreV_at (m h e:Int):∀(ts:List TextP) (vs:List Int),vs.length=ts.length→∀c∈coreV m h e vs ts,c.entry=e∧∃(j:Nat) (hj:j<ts.length) (hv:j<vs.length),c.ver=vs[j]∧∃q∈Qag ts[j].a ts[j].b m h,c.body=q.body∧c.notes=q.notes
 |[],vs,_=>by simp[coreV]
 |t::ts,[],hl=>by simp at hl
 |t::ts,v::vs,hl=>by
  rw[coreV];intro c hc;rcases List.mem_append.1 hc with hc|hc
  ·obtain⟨q,hq,rfl⟩:=List.mem_map.1 hc;exact⟨rfl,0,by simp,by simp,rfl,q,hq,rfl,rfl⟩
  ·obtain⟨he,j,hj,hv,h1,q,hq,h2⟩:=coreV_at m h e ts vs (by simpa using hl) c hc;exact⟨he,j+1,by simpa using hj,by simpa using hv,h1,q,hq,h2⟩
theorem hasT_at {l:List SectP}(hd:(l.map (·.entry)).Nodup){i:Nat}(hi:i<l.length)(hv:l[i].vers.Nodup){k:Nat}(hk:k<l[i].vers.length):hasT l l[i].entry l[i].vers[k]=l[i].texts[k]? :=by
 unfold hasT
 have h1:l.findIdx (fun s=>decide (s.entry=l[i].entry))=i:=by
  rw[List.findIdx_eq hi];refine⟨by simp,fun j hj=>?_⟩
  have hne:l[j].entry≠l[i].entry:=fun e=>by
   exact(List.pairwise_iff_getElem.1 hd j i (by rw[qM];omega) (by rw[qM];exact hi) hj) (by rw[List.getElem_map,List.getElem_map];exact e)
  simp[hne]
 have h2:l[i].vers.findIdx (fun x=>decide (x=l[i].vers[k]))=k:=by
  rw[List.findIdx_eq hk];refine⟨by simp,fun j hj=>?_⟩
  have hne:l[i].vers[j]≠l[i].vers[k]:=fun e=>by
   exact(List.pairwise_iff_getElem.1 hv j k (by omega) hk hj) e
  simp[hne]
 rw[h1,qG hi,Option.bind_some,h2]
theorem GoodB.text {m h:Int}{l:List SectP}(H:GoodB m h l):∀p∈Qak m h l,∃t,hasT l p.entry p.ver=some t∧Qbo m h t.a t.b=0∧(∃s∈l,t∈s.texts)∧∀x∈p.body++p.notes,InL (tot (t.a++t.b)) x:=by
 intro p hp;have hc:p.core∈coreS m h l:=by rw[←Qei];exact List.mem_map_of_mem hp
 unfold coreS at hc;obtain⟨s,hs,hcs⟩:=List.mem_flatMap.1 hc;have g:=H.s s hs;obtain⟨he,j,hj,hv,h1,q,hq,h2,h3⟩:=coreV_at m h s.entry s.texts s.vers g.nt p.core hcs;obtain⟨i,hi,hil⟩:=List.getElem_of_mem hs;subst hil;have h4:=hasT_at H.d hi g.d hv;rw[←h1,←he,qG hj] at h4;refine⟨l[i].texts[j],h4,g.w _ (List.getElem_mem hj),⟨_,List.getElem_mem hi,List.getElem_mem hj⟩,?_⟩;have h5:=okPages_in q hq;have h6:p.body=q.body:=h2;have h7:p.notes=q.notes:=h3;rw[h6,h7];exact h5
structure Seal where
 e:Int
 v:Int
 f:Int
 u:Int
 g:Int
 deriving DecidableEq
def Seal.ok (s:Seal):Prop:=I64 s.e∧I64 s.v∧I64 s.f∧I64 s.u∧I64 s.g
def Seal.cells (s:Seal):List Value:=[.int .i64 s.e,.int .i64 s.v,.int .i64 s.f,.int .i64 s.u,.int .i64 s.g]
instance:Rep Seal where
 size:=5
 R _ _ cs s:=cs=s.cells∧s.ok
 len:=by rintro w S cs s ⟨rfl,_⟩;rfl
 one:=by rintro w S cs s ⟨rfl,_⟩ u hu;simp[Seal.cells] at hu;rcases hu with rfl|rfl|rfl|rfl|rfl<;>rfl
 keep:=by rintro w w' S cs s h _;exact h
 mono:=by rintro w S S' cs s h _;exact h
structure Span where
 f:Int
 u:Int
 deriving DecidableEq
def Span.ok (s:Span):Prop:=I64 s.f∧I64 s.u
def Span.cells (s:Span):List Value:=[.int .i64 s.f,.int .i64 s.u]
instance:Rep Span where
 size:=2
 R _ _ cs s:=cs=Span.cells s∧Span.ok s
 len:=by rintro w S cs s ⟨rfl,_⟩;rfl
 one:=by rintro w S cs s ⟨rfl,_⟩ u hu;simp[Span.cells] at hu;rcases hu with rfl|rfl<;>rfl
 keep:=by rintro w w' S cs s h _;exact h
 mono:=by rintro w S S' cs s h _;exact h
theorem seal_at {w:World}{S:Nat→Prop}{A:Option Addr}{c:Nat}{l:List Seal}(h:Sl w S A c l){k:Nat}(hk:k<l.length):
 ∃b o,A=some ⟨b,o,none⟩∧S b∧b<w.heap.size∧l[k].ok∧w.cell? ⟨b,o+k*5,none⟩=some (.int .i64 l[k].e)∧w.cell? ⟨b,o+k*5+1,none⟩=some (.int .i64 l[k].v)∧ w.cell? ⟨b,o+k*5+2,none⟩=some (.int .i64 l[k].f)∧w.cell? ⟨b,o+k*5+3,none⟩=some (.int .i64 l[k].u)∧w.cell? ⟨b,o+k*5+4,none⟩=some (.int .i64 l[k].g):=by
 obtain⟨b,o,es,rfl,hb,hlt,⟨rfl,hok⟩,hc⟩:=h.at_ hk;exact⟨b,o,rfl,hb,hlt,hok,hc 0 _ rfl,hc 1 _ rfl,hc 2 _ rfl,hc 3 _ rfl,hc 4 _ rfl⟩
def sidx (s:Seal):List Seal→Nat→Int
 |[],_=> -1
 |x::r,k=>if x=s then k else sidx s r (k+1)
theorem sidx_miss (s:Seal)(l:List Seal)(k:Nat)(hk:k<l.length)(h:l[k]≠s):sidx s (l.drop k) k=sidx s (l.drop (k+1)) (k+1):=by
 rw[List.drop_eq_getElem_cons hk,sidx,if_neg h]
theorem sidx_hit (s:Seal)(l:List Seal)(k:Nat)(hk:k<l.length)(h:l[k]=s):sidx s (l.drop k) k=k:=by
 rw[List.drop_eq_getElem_cons hk,sidx,if_pos h]
def vld (s:Seal):Bool:=decide (0≤s.e∧s.e<65536∧0≤s.v∧s.v≤2147483647∧0≤s.f∧s.f<s.u∧s.u≤1048576∧0≤s.g∧s.g<16)
theorem vld_t {s:Seal}(h:0≤s.e∧s.e<65536∧0≤s.v∧s.v≤2147483647∧0≤s.f∧s.f<s.u∧s.u≤1048576∧0≤s.g∧s.g<16):vld s=true:=decide_eq_true h
theorem vld_f {s:Seal}(h:¬(0≤s.e∧s.e<65536∧0≤s.v∧s.v≤2147483647∧0≤s.f∧s.f<s.u∧s.u≤1048576∧0≤s.g∧s.g<16)):vld s=false:=decide_eq_false h
theorem sidx_lo (s:Seal)(l:List Seal)(k:Nat): -1≤sidx s l k∧(0≤sidx s l k↔s∈l):=by
 induction l generalizing k with
 |nil=>simp[sidx]
 |cons x r ih=>
  unfold sidx;by_cases h:x=s
  ·rw[if_pos h];subst h;refine⟨by omega,?_⟩;simp
  ·rw[if_neg h];obtain⟨h1,h2⟩:=ih (k+1);refine⟨h1,h2.trans ?_⟩;simp[Ne.symm h]
theorem sidx_mem (s:Seal)(l:List Seal):0≤sidx s l 0↔s∈l:=(sidx_lo s l 0).2
def saddE (l:List Seal)(s:Seal):List Seal × Int:=if vld s=false then([],5) else if s∈l then([],4) else if 1000≤l.length then([],2) else(l++[s],0)
def gOr (a:Nat)(s:Seal):Nat:=a ||| 2^s.g.toNat
def gset (l:List Seal):Nat:=l.foldl gOr 0
theorem gOr_lt (a:Nat)(s:Seal)(ha:a<65536)(hg:s.g<16):gOr a s<65536:=by
 have h2:2^s.g.toNat<2^16:=Nat.pow_lt_pow_right (by omega) (by omega);exact Nat.or_lt_two_pow (n:=16) ha h2
theorem gset_lt (l:List Seal)(h:∀s∈l,s.g<16):gset l<65536:=by
 unfold gset;suffices H:∀a,a<65536→l.foldl gOr a<65536 from H 0 (by omega);induction l with
 |nil=>intro a ha;exact ha
 |cons x r ih=>intro a ha;exact ih (fun s hs=>h s (List.mem_cons_of_mem _ hs)) _ (gOr_lt a x ha (h x List.mem_cons_self))
theorem gset_succ (l:List Seal)(k:Nat)(h:k<l.length):gset (l.take (k+1))=gOr (gset (l.take k)) l[k]:=by
 unfold gset;rw[qT h,List.foldl_append];rfl
end Go.Proofs.YtegaapiocihcpaaGreatDoor
namespace Go.Proofs.YtegaapiocihcpaaGreatDoor
open Go.RowKit
attribute [local go_sem ↓] Go.wp_at_zero Go.wp_at_succ
theorem eql_seal (a b:Seal)(w:World):(binOp .eql 118 (.agg #[.int .i64 a.e,.int .i64 a.v,.int .i64 a.f,.int .i64 a.u,.int .i64 a.g]) (.agg #[.int .i64 b.e,.int .i64 b.v,.int .i64 b.f,.int .i64 b.u,.int .i64 b.g])).run Tryz.prog w=.ok (.bool (decide (a=b))) w:=by
 obtain⟨a1,a2,a3,a4,a5⟩:=a;obtain⟨b1,b2,b3,b4,b5⟩:=b;simp only[Seal.mk.injEq];go_simp;(repeat' split);all_goals simp[*]
theorem Qc8 {w:World}{B:Nat}{s:Seal}{t:TypeId}{fr:Nat × Nat}(hB:w.heap[B]? =some (.cells s.cells.toArray t fr)):
 w.cell? ⟨B,0,none⟩=some (.int .i64 s.e)∧w.cell? ⟨B,1,none⟩=some (.int .i64 s.v)∧w.cell? ⟨B,2,none⟩=some (.int .i64 s.f)∧w.cell? ⟨B,3,none⟩=some (.int .i64 s.u)∧w.cell? ⟨B,4,none⟩=some (.int .i64 s.g):=
 ⟨cell_of_row w _ 0 _ _ _ hB,cell_of_row w _ 1 _ _ _ hB,cell_of_row w _ 2 _ _ _ hB,cell_of_row w _ 3 _ _ _ hB,cell_of_row w _ 4 _ _ _ hB⟩
theorem sindex0_any (A:Option Addr)(c:Nat)(l:List Seal)(s:Seal)(w:World)(hl:Sl w (fun b=>b<w.heap.size) A c l)(_hs:s.ok):
 Calls Tryz.prog 139 #[.slice A l.length c,.agg s.cells.toArray] w fun e w'=>e=.returned (.int .i64 (sidx s l 0))∧Below w.heap.size w w':=by
 have hlen:l.length≤9223372036854775807:=by have:=hl.1;have:=hl.2.1;unfold maxLen at this;omega
 unfold Seal.cells;go_enter Tryz.func139,Tryz.ntmps139;go_wp2
 go_loopw [5] (fun i wr=>∃k:Nat,k≤l.length∧i=.int .i64 k∧Hid (sidx s l 0=sidx s (l.drop k) k)∧Below w.heap.size w wr∧wr.heap[w.heap.size]? =some (.cells s.cells.toArray 118 (0,0))) (fun i _=>l.length-(intOf i).toNat)
 (case atStart=>exact⟨0,Nat.zero_le _,rfl,rfl,bR.alloc nL _,heap_alloc_new w _⟩);case round=>
  obtain⟨k,hk,rfl,hi,hb,hB⟩:=hrel;by_cases hlt:k<l.length
  ·obtain⟨b,o,rfl,hbS,hbl,hok,c0,c1,c2,c3,c4⟩:=seal_at (hl.keep (Kept.all hb) hb.size) hlt;have hkl:(k:Int)<(l.length:Int):=(by omega);have hk0:(0:Int)≤(k:Int):=(by omega);obtain⟨e0,e1,e2,e3,e4⟩:=Qc8 hB;have hq:∀w',(binOp .eql 118 (.agg #[.int .i64 l[k].e,.int .i64 l[k].v,.int .i64 l[k].f,.int .i64 l[k].u,.int .i64 l[k].g]) (.agg #[.int .i64 s.e,.int .i64 s.v,.int .i64 s.f,.int .i64 s.u,.int .i64 s.g])).run Tryz.prog w'=.ok (.bool (decide (l[k]=s))) w':=fun w'=>eql_seal _ _ _
   by_cases heq:l[k]=s
   ·rw[decide_eq_true heq] at hq;have Heq:=Lh (sidx_hit s l k hlt heq);clear heq;go_wp2_with fail;go_quiet (fail);go_wp2_with fail;go_ret;exact⟨Qas (by rw[hi.out,Heq.out]),Below.dn hb _⟩
   ·rw[decide_eq_false heq] at hq;have Heq:=Lh (sidx_miss s l k hlt heq);clear heq;go_wp2_with fail;go_quiet (fail);go_wp2_with fail;go_roundw;(case rel=>exact⟨k+1,by omega,by go_num,by rw[hi.out,Heq.out];rfl,Below.dn hb _,hB⟩);case measure=>simp[intOf];omega
  ·go_wp2_with fail;go_ret;exact⟨by rw[hi.out,List.drop_of_length_le (by omega)];rfl,hb⟩
theorem index_n (A:Option Addr)(c n:Nat)(l:List Seal)(s:Seal)(w:World)(hl:Sl w (fun b=>b<w.heap.size) A c l)(hn:l.length=n)(hs:s.ok):
 Calls Tryz.prog 139 #[.slice A n c,.agg #[.int .i64 s.e,.int .i64 s.v,.int .i64 s.f,.int .i64 s.u,.int .i64 s.g]] w fun e w'=>e=.returned (.int .i64 (sidx s l 0))∧Below w.heap.size w w':=by
 subst hn;exact sindex0_any A c l s w hl hs
theorem srvalid_any (s:Seal)(w:World):
 Calls Tryz.prog 138 #[.agg s.cells.toArray] w fun e w'=>e=.returned (.bool (vld s))∧Below w.heap.size w w':=by
 unfold Seal.cells;go_enter Tryz.func138,Tryz.ntmps138;go_wp2;(all_goals go_ret);(all_goals refine⟨Qat ?_,bR.alloc nL _⟩);all_goals first|(symm;apply vld_t;omega)|(symm;apply vld_f;omega)|(unfold vld;apply decide_eq_decide.2;omega)
theorem Qec:(Tryz.prog.info? 118).map (fun i=>(i.zero,i.size,i.bytes))=some (some (.agg #[.int .i64 0,.int .i64 0,.int .i64 0,.int .i64 0,.int .i64 0]),Rep.size Seal,40):=by kernel_rfl
set_option maxRecDepth 100000 in
theorem radd_any (A:Option Addr)(c n:Nat)(l:List Seal)(s:Seal)(w:World)(hl:Sl w (fun b=>b<w.heap.size) A c l)(hn:l.length=n)(hs:s.ok):
 Calls Tryz.prog 95 #[.slice A n c,.agg #[.int .i64 s.e,.int .i64 s.v,.int .i64 s.f,.int .i64 s.u,.int .i64 s.g]] w fun e w'=>∃v,e=.returned (.tuple #[v,.int .i64 (saddE l s).2])∧Own w' w.heap.size 118 v (saddE l s).1∧Below w.heap.size w w':=by
 subst hn;obtain⟨out,er,hae⟩:∃out er,saddE l s=(out,er):=⟨_,_,rfl⟩;rw[hae];unfold saddE at hae;have Hae:=Lh hae;clear hae;have hlen:l.length≤9223372036854775807:=by have:=hl.1;have:=hl.2.1;unfold maxLen at this;omega
 have hbx:(w.alloc (.cells s.cells.toArray 118)).heap[w.heap.size]? =some (.cells s.cells.toArray 118 (0,0)):=heap_alloc_new w _;have Hbx:=Lh hbx;have Hb0:=Lh ((Below.refl w.heap.size w).alloc nL (.cells s.cells.toArray 118));clear hbx;go_enter Tryz.func95,Tryz.ntmps95;go_wp2_with fail;refine(srvalid_any s _).mono ?_;rintro e w1 ⟨rfl,hb1⟩;have hB1:=(hb1.block w.heap.size (by simp)).trans Hbx.out;obtain⟨e0,e1,e2,e3,e4⟩:=Qc8 hB1;have hbw1:Below w.heap.size w w1:=Hb0.out.trans (hb1.mono (by simp));have hz1:w.heap.size+1≤w1.heap.size:=by have:=hb1.size;simpa using this
 cases hv:vld s
 ·rw[hv,if_pos rfl] at Hae;obtain⟨rfl,rfl⟩:=Prod.mk.inj Hae.out;have Hv:=Lh hv;clear hv;go_wp2_with fail;go_ret2;exact⟨_,rfl,Own.nil _ _ _,hbw1⟩
 ·rw[hv,if_neg (by simp)] at Hae;have Hv:=Lh hv;have HB1:=Lh hB1;clear hB1 hv;go_wp2_with fail;refine(index_n A c l.length l s _ (hl.to hbw1) rfl hs).mono ?_;rintro e w2 ⟨rfl,hb2⟩;have HB2:=Lh ((hb2.block w.heap.size (by omega)).trans HB1.out);obtain⟨d0,d1,d2,d3,d4⟩:=Qc8 HB2.out;have hbw2:Below w.heap.size w w2:=hbw1.trans (hb2.mono hbw1.size);have hz2:w.heap.size+1≤w2.heap.size:=(by have:=hb2.size;omega);clear e0 e1 e2 e3 e4;by_cases hin:s∈l
  ·rw[if_pos hin] at Hae;obtain⟨rfl,rfl⟩:=Prod.mk.inj Hae.out;have hq:0≤sidx s l 0:=(sidx_mem _ _).2 hin;generalize sidx s l 0=q at*;clear hin;go_wp2_with fail;go_ret2;exact⟨_,rfl,Own.nil _ _ _,hbw2⟩
  ·rw[if_neg hin] at Hae;have hq:sidx s l 0<0:=(by have:=mt (sidx_mem s l).1 hin;omega);generalize sidx s l 0=q at*;clear hin;by_cases hbig:1000≤l.length
   ·rw[if_pos hbig] at Hae;obtain⟨rfl,rfl⟩:=Prod.mk.inj Hae.out;go_wp2_with fail;go_ret2;exact⟨_,rfl,Own.nil _ _ _,hbw2⟩
   ·rw[if_neg hbig] at Hae;obtain⟨rfl,rfl⟩:=Prod.mk.inj Hae.out;have hbig':l.length<1000:=(by omega);clear hbig;have hl2:=hl.keep (Kept.all hbw2) hbw2.size
    go_wp2_with (first|(at_builtin;refine QaC (α:=Seal) _ rfl (.tmp 17) (.tmp 18) 26 rfl w.heap.size 118 (.agg #[.int .i64 0,.int .i64 0,.int .i64 0,.int .i64 0,.int .i64 0]) 40 Tryz.underlying26 Qec rfl (by decide) (.slice none 0 0) [] rfl (Own.nil w2 _ _) A c l.length l rfl rfl (fun b=>b<w.heap.size) hl2 (by intro i _ _ e;simp[Value.ownBlock] at e) (by first|omega|(simp;omega)) (by first|omega|(simp;omega)) (by first|omega|(simp;omega)) ?_;intro v3 w3 hown3 hg3 hat3;rw[List.nil_append] at hown3;obtain⟨A3,c3,e3,hs3,hc3,hc3'⟩:=hown3.form;subst e3;have hbb3:Below w2.heap.size w2 w3:=bR.grown hg3 nL (by simp[Value.ownBlock]);obtain⟨f0,f1,f2,f3,f4⟩:=Qc8 ((hbb3.block w.heap.size (by omega)).trans HB2.out);have hz3:w.heap.size+1≤w3.heap.size:=by have:=hbb3.size;omega)|(at_builtin;refine Qav (α:=Seal) _ rfl (.tmp 20) (.tmp 22) 26 rfl w.heap.size 118 (.agg #[.int .i64 0,.int .i64 0,.int .i64 0,.int .i64 0,.int .i64 0]) 40 Tryz.underlying26 Qec rfl (by decide) _ _ rfl (hown3.alloc _) w3.heap.size _ s (0,0) 118 rfl (heap_alloc_new w3 _) ⟨rfl,hs⟩ (by first|omega|(simp;omega)) (by first|omega|(simp;omega)) (by first|omega|(simp;omega)) _ rfl ?_;intro g4 cap4 w4 hown4 hg4 hat4 hlt4))
    go_ret2;exact⟨_,rfl,hown4,QbN (hbw2.trans (hbb3.mono hbw2.size)) hown3 (by omega) hg4⟩
end Go.Proofs.YtegaapiocihcpaaGreatDoor
