/- Texts of SpC. -/
import Derived.Test.YtegaapiocihcpaaDoorSDa2
import Derived.Test.YtegaapiocihcpaaDoorRows
import Derived.Shelf.Small.Bits
import Derived.Ground.NamesProg
import Derived.BigQuiet
import Derived.Shelf.Spec.SlicesGrow
import Derived.Shelf.SlGeneric
import Derived.Test.YtegaapiocihcpaaDoorProg
import Derived.Deep.MidRow
import Derived.Laws.MakeOwn
import Derived.Deep.CutRange
import Derived.WalkMore
import Derived.Deep.CutBlock
import Derived.Laws.CopyOwn
set_option maxHeartbeats 8000000
namespace Go.Proofs.YtegaapiocihcpaaDoor
open Go.RowKit
attribute [local go_sem ↓] Go.wp_at_zero Go.wp_at_succ
theorem Qdr {w:World}{base:Nat}{e:TypeId}{v:Value}{l:List Seal}(h:Own w base e v l){k:Nat}(hk:k<l.length):
 ∃g cap,v=.slice (some ⟨g,0,none⟩) l.length cap∧base≤g∧g<w.heap.size∧l.length≤cap∧l[k].ok∧(∀o,w.frozen? ⟨g,o,none⟩=false)∧w.cell? ⟨g,k*5,none⟩=some (.int .i64 l[k].e)∧w.cell? ⟨g,k*5+1,none⟩=some (.int .i64 l[k].v)∧ w.cell? ⟨g,k*5+2,none⟩=some (.int .i64 l[k].f)∧w.cell? ⟨g,k*5+3,none⟩=some (.int .i64 l[k].u)∧w.cell? ⟨g,k*5+4,none⟩=some (.int .i64 l[k].g):=by
 obtain⟨g,cap,es,rfl,hb,hlt,hc,⟨rfl,hok⟩,hcell,hfz⟩:=h.at_ hk;exact⟨g,cap,rfl,hb,hlt,hc,hok,hfz,hcell 0 _ rfl,hcell 1 _ rfl,hcell 2 _ rfl,hcell 3 _ rfl,hcell 4 _ rfl⟩
theorem QcJ {w:World}{base:Nat}{e:TypeId}{g n cap:Nat}{l:List Seal}(h:Own w base e (.slice (some ⟨g,0,none⟩) n cap) l)(k:Nat)(hk:k<l.length)(s:Seal)(hs:s.ok){o:Nat}(ho:o=k*5):
 Own (((((w.setCell ⟨g,o,none⟩ (.int .i64 s.e)).setCell ⟨g,o+1,none⟩ (.int .i64 s.v)).setCell ⟨g,o+2,none⟩ (.int .i64 s.f)).setCell ⟨g,o+3,none⟩ (.int .i64 s.u)).setCell ⟨g,o+4,none⟩ (.int .i64 s.g)) base e (.slice (some ⟨g,0,none⟩) n cap) (l.set k s)∧
 w.grownBy (((((w.setCell ⟨g,o,none⟩ (.int .i64 s.e)).setCell ⟨g,o+1,none⟩ (.int .i64 s.v)).setCell ⟨g,o+2,none⟩ (.int .i64 s.f)).setCell ⟨g,o+3,none⟩ (.int .i64 s.u)).setCell ⟨g,o+4,none⟩ (.int .i64 s.g)) (some g):=by
 subst ho;obtain⟨x1,x2,x3,x4,x5⟩:=s;obtain⟨k1,k2,k3,k4,k5⟩:=hs;obtain⟨y,hy⟩:∃y,l[k]=y:=⟨_,rfl⟩
 have a1:=h.setf k 0 hk (by decide) (.int .i64 x1) rfl (⟨x1,y.v,y.f,y.u,y.g⟩:Seal) (by
  rintro S es ⟨rfl,o1,o2,o3,o4,o5⟩;rw[hy] at *;exact⟨rfl,k1,o2,o3,o4,o5⟩) rfl
 have a2:=a1.1.setf k 1 (by simpa using hk) (by decide) (.int .i64 x2) rfl (⟨x1,x2,y.f,y.u,y.g⟩:Seal) (by
  intro S es h;rw[List.getElem_set_self] at h;obtain⟨rfl,o1,o2,o3,o4,o5⟩:=h;exact⟨rfl,k1,k2,o3,o4,o5⟩) rfl
 have a3:=a2.1.setf k 2 (by simpa using hk) (by decide) (.int .i64 x3) rfl (⟨x1,x2,x3,y.u,y.g⟩:Seal) (by
  intro S es h;rw[List.getElem_set_self] at h;obtain⟨rfl,o1,o2,o3,o4,o5⟩:=h;exact⟨rfl,k1,k2,k3,o4,o5⟩) rfl
 have a4:=a3.1.setf k 3 (by simpa using hk) (by decide) (.int .i64 x4) rfl (⟨x1,x2,x3,x4,y.g⟩:Seal) (by
  intro S es h;rw[List.getElem_set_self] at h;obtain⟨rfl,o1,o2,o3,o4,o5⟩:=h;exact⟨rfl,k1,k2,k3,k4,o5⟩) rfl
 have a5:=a4.1.setf k 4 (by simpa using hk) (by decide) (.int .i64 x5) rfl (⟨x1,x2,x3,x4,x5⟩:Seal) (by
  intro S es h;rw[List.getElem_set_self] at h;obtain⟨rfl,o1,o2,o3,o4,o5⟩:=h;exact⟨rfl,k1,k2,k3,k4,k5⟩) rfl
 refine⟨?_,grown_trans2 a1.2 (grown_trans2 a2.2 (grown_trans2 a3.2 (grown_trans2 a4.2 a5.2)))⟩;have:=a5.1;simp only[List.set_set] at this;exact this
theorem isort_any (v:Value)(base n:Nat)(l:List Seal)(w:World)(hown:Own w base 59 v l)(hn:l.length=n)(hsz:n≤12):
 Calls Tryd.prog 52 #[v,.int .i64 0,.int .i64 n,.func (.func 25) #[] #[]] w fun e w'=>∃l',e=.returned (.tuple #[])∧l'.Perm l∧byF l'∧Own w' base 59 v l'∧w.grownBy w' v.ownBlock:=by
 go_enter Tryd.func52,Tryd.ntmps52;go_wp2_with fail;go_loopw [8,9] (fun i _ wr=>∃(k:Nat) (m:List Seal),k≤n+1∧1≤k∧i=.int .i64 k∧m.length=n∧m.Perm l∧QcS m k∧Own wr base 59 v m∧w.grownBy wr v.ownBlock) (fun i _ _=>n+1-(intOf i).toNat);(case atStart=>exact⟨1,l,by omega,by omega,rfl,hn,List.Perm.refl _,fun a b hab hb=>by omega,hown,World.grownBy.refl _ _⟩);case round=>
  obtain⟨k,m,hk,hk1,rfl,hml,hperm,hsorted,hom,hgr⟩:=hrel;have Hml:=Lh hml;have Hp:=Lh hperm;have Hs:=Lh hsorted;clear hml hperm hsorted;by_cases hlt:k<n
  ·go_wp2_with fail;obtain⟨wo,hwo⟩:∃wo:World,wo=wr:=⟨_,rfl⟩;go_loopw [9] (fun j wq=>∃(q:Nat) (m2:List Seal),q≤k∧j=.int .i64 q∧m2.length=n∧m2.Perm l∧almost m2 k q∧Own wq base 59 v m2∧w.grownBy wq v.ownBlock) (fun j _=>(intOf j).toNat);(case atStart=>exact⟨k,m,Nat.le_refl _,rfl,Hml.out,Hp.out,almost_start m k Hs.out,hom,hgr⟩);case round=>
    obtain⟨q,m2,hq,rfl,hml2,hperm2,halm,hom2,hgr2⟩:=hrel;have hltm:q<m2.length:=(by omega);have Hml2:=Lh hml2;have Hp2:=Lh hperm2;have Ha2:=Lh halm;clear hml2 hperm2 halm;obtain _|p:=q
    ·have hg0:¬(0:Int)<0:=by omega
     go_wp2_with fail;go_quiet (fail);go_wp2_with fail;go_roundw;(case rel=>exact⟨k+1,m2,by omega,by omega,by go_num,Hml2.out,Hp2.out,almost_end m2 k 0 Ha2.out (by omega) (fun h=>absurd h (by omega)),hom2.drewN _,grown_dn hgr2 _⟩);case measure=>simp[intOf];omega
    ·have hp1:p<m2.length:=by omega
     obtain⟨g,cap,rfl,hbg,hgl,hnc,hok1,hfz,c0,c1,c2,c3,c4⟩:=Qdr hom2 hltm;obtain⟨g',cap',he',_,_,_,hok0,_,d0,d1,d2,d3,d4⟩:=Qdr hom2 hp1;cases he';have hi1:((p+1:Nat):Int)<(m2.length:Int):=(by omega);have hi2:(p:Int)+1<(m2.length:Int):=(by omega);have hi3:(p:Int)<(m2.length:Int):=(by omega);have hi4:(0:Int)≤(p:Int):=(by omega);have hi5:(0:Int)≤(p:Int)+1:=(by omega);have hi6:IntKind.i64.wrap (p:Int)=p:=IntWalk.i64_in _ (by omega);have hi7:IntKind.i64.wrap ((p:Int)+1-1)=p:=(IntWalk.i64_in _ (by omega)).trans (by omega);have hq0:(0:Int)<((p+1:Nat):Int):=(by omega);go_wp2_with fail;by_cases hcmp:m2[p+1].f<m2[p].f
     ·have Hcmp:=Lh hcmp;clear hcmp
      go_region_held3 (fun w'=>w'.cell? ⟨g,(p+1)*5,none⟩=some (.int .i64 m2[p+1].e)∧w'.cell? ⟨g,(p+1)*5+1,none⟩=some (.int .i64 m2[p+1].v)∧w'.cell? ⟨g,(p+1)*5+2,none⟩=some (.int .i64 m2[p+1].f)∧w'.cell? ⟨g,(p+1)*5+3,none⟩=some (.int .i64 m2[p+1].u)∧w'.cell? ⟨g,(p+1)*5+4,none⟩=some (.int .i64 m2[p+1].g)∧w'.cell? ⟨g,p*5,none⟩=some (.int .i64 m2[p].e)∧w'.cell? ⟨g,p*5+1,none⟩=some (.int .i64 m2[p].v)∧w'.cell? ⟨g,p*5+2,none⟩=some (.int .i64 m2[p].f)∧w'.cell? ⟨g,p*5+3,none⟩=some (.int .i64 m2[p].u)∧w'.cell? ⟨g,p*5+4,none⟩=some (.int .i64 m2[p].g)) (go_keep) (first|(go_at_call 25;refine(cmpF_lt m2[p+1] m2[p] _ Hcmp.out).mono ?_;rintro e w3 ⟨rfl,hb3⟩;have kc:=fun o (u:Value) (h:wr.cell? ⟨g,o,none⟩=some u)=>(hb3.cell (p:=⟨g,o,none⟩) hgl).trans h;have f0:=kc _ _ c0;have f1:=kc _ _ c1;have f2:=kc _ _ c2;have f3:=kc _ _ c3;have f4:=kc _ _ c4;have g0:=kc _ _ d0;have g1:=kc _ _ d1;have g2:=kc _ _ d2;have g3:=kc _ _ d3;have g4:=kc _ _ d4;clear kc))
      have hfz3:∀o,w3.frozen? ⟨g,o,none⟩=false:=fun o=>(hb3.frozen (p:=⟨g,o,none⟩) hgl).trans (hfz o)
      clear c0 c1 c2 c3 c4 d0 d1 d2 d3 d4 hfz;go_wp2_with fail;have hb3':Below wr.heap.size wr w3:=bR.drew.trans hb3;have hom3:=hom2.below hb3';have hgr3:=grown_trans2 hgr2 (Qc9 hb3' (some g));have b1:=QcJ hom3 (p+1) (by omega) m2[p] hok0 (o:=(p+1)*5) rfl;have b2:=QcJ b1.1 p (by rw[List.length_set];omega) m2[p+1] hok1 (o:=p*5) rfl;have hgr4:=grown_trans2 hgr3 (grown_trans2 b1.2 b2.2);have B2:=Lh b2.1;have HG4:=Lh hgr4;clear b1 b2 hgr4 hom3;go_region;go_wp2_with fail;go_roundw;(case rel=>exact⟨p,swapL m2 (p+1) m2[p] m2[p+1],by omega,rfl,by rw[swapL_length];exact Hml2.out,(swapL_perm m2 (p+1) (by omega) hltm).trans Hp2.out,almost_step m2 k (p+1) Ha2.out (by omega) hltm Hcmp.out,B2.out.drew,grown_drew HG4.out⟩);case measure=>simp[intOf]
     ·have Hcmp:=Lh hcmp;clear hcmp
      go_region_held3 (fun w'=>w'.cell? ⟨g,(p+1)*5,none⟩=some (.int .i64 m2[p+1].e)∧w'.cell? ⟨g,(p+1)*5+1,none⟩=some (.int .i64 m2[p+1].v)∧w'.cell? ⟨g,(p+1)*5+2,none⟩=some (.int .i64 m2[p+1].f)∧w'.cell? ⟨g,(p+1)*5+3,none⟩=some (.int .i64 m2[p+1].u)∧w'.cell? ⟨g,(p+1)*5+4,none⟩=some (.int .i64 m2[p+1].g)∧w'.cell? ⟨g,p*5,none⟩=some (.int .i64 m2[p].e)∧w'.cell? ⟨g,p*5+1,none⟩=some (.int .i64 m2[p].v)∧w'.cell? ⟨g,p*5+2,none⟩=some (.int .i64 m2[p].f)∧w'.cell? ⟨g,p*5+3,none⟩=some (.int .i64 m2[p].u)∧w'.cell? ⟨g,p*5+4,none⟩=some (.int .i64 m2[p].g)) (go_keep) (first|(go_at_call 25;refine(cmpF_ge m2[p+1] m2[p] _ Hcmp.out).mono ?_;rintro e w3 ⟨cv,hcv,rfl,hb3⟩;have kc:=fun o (u:Value) (h:wr.cell? ⟨g,o,none⟩=some u)=>(hb3.cell (p:=⟨g,o,none⟩) hgl).trans h;have f0:=kc _ _ c0;have f1:=kc _ _ c1;have f2:=kc _ _ c2;have f3:=kc _ _ c3;have f4:=kc _ _ c4;have g0:=kc _ _ d0;have g1:=kc _ _ d1;have g2:=kc _ _ d2;have g3:=kc _ _ d3;have g4:=kc _ _ d4;clear kc))
      have hb3':Below wr.heap.size wr w3:=bR.drew.trans hb3;have hom3:=hom2.below hb3';have hgr3:=grown_trans2 hgr2 (Qc9 hb3' (some g));go_wp2_with fail;go_roundw
      case rel=>exact⟨k+1,m2,by omega,by omega,by go_num,Hml2.out,Hp2.out,almost_end m2 k (p+1) Ha2.out (by omega) (fun _ x y hx hy=>by
       rw[Nat.add_sub_cancel,qG hp1] at hx;rw[qG hltm] at hy;cases hx;cases hy;have:=Hcmp.out;omega),hom3,hgr3⟩
      case measure=>simp[intOf];omega
  ·go_wp2_with fail;go_end0;refine⟨m,rfl,Hp.out,?_,hom,hgr⟩;have hs:=Hs.out;have hl:=Hml.out;intro a b hab hb x y hx hy;exact hs a b hab (by omega) x y hx hy
end Go.Proofs.YtegaapiocihcpaaDoor
namespace Go.Proofs.YtegaapiocihcpaaDoor
open Go.Shelf Go.RowKit
def lays125_ren:Go.Shelf.Ren:=⟨fun|125=>42|128=>60|129=>61|n=>n,fun|3=>3|4=>4|5=>5|9=>9|46=>92|51=>112|53=>114|n=>n,fun|n=>n⟩
theorem lays125:Go.Proofs.Lays.n125 Tryd.prog lays125_ren:={
 mixed:=by kernel_rfl
 f125:=Tryd.func42.trans (congrArg some (by kernel_rfl))
 f128:=Tryd.func60.trans (congrArg some (by kernel_rfl))
 f129:=Tryd.func61.trans (congrArg some (by kernel_rfl))
 t3:=Tryd.underlying3
 a3:=Tryd.isAgg3
 z3:=Tryd.sizeOf3
 v3:=Tryd.zeroValue3
 t4:=Tryd.underlying4
 a4:=Tryd.isAgg4
 z4:=Tryd.sizeOf4
 v4:=Tryd.zeroValue4
 t5:=Tryd.underlying5
 a5:=Tryd.isAgg5
 z5:=Tryd.sizeOf5
 v5:=Tryd.zeroValue5
 t9:=Tryd.underlying9
 a9:=Tryd.isAgg9
 z9:=Tryd.sizeOf9
 v9:=Tryd.zeroValue9
 t46:=Tryd.underlying92
 a46:=Tryd.isAgg92
 z46:=Tryd.sizeOf92
 v46:=Tryd.zeroValue92
 t51:=Tryd.underlying112
 a51:=Tryd.isAgg112
 z51:=Tryd.sizeOf112
 v51:=Tryd.zeroValue112
 t53:=Tryd.underlying114
 a53:=Tryd.isAgg114
 z53:=Tryd.sizeOf114
 v53:=Tryd.zeroValue114}
theorem bits_Len (x:Int)(w:World)(h0:0≤x)(h1:x≤18446744073709551615):
 Calls Tryd.prog 42 #[.int .u64 x] w fun e w'=>e=.returned (.int .i64 (Lib.bitLen x.toNat))∧w=w':=(Any.bits_Len lays125 x w h0 h1).mono fun _ _ h=>⟨h.1,h.2.symm⟩
end Go.Proofs.YtegaapiocihcpaaDoor
namespace Go.Proofs.YtegaapiocihcpaaDoor
open Go.RowKit
attribute [local go_sem ↓] Go.wp_at_zero Go.wp_at_succ
theorem pdq_any (v:Value)(base n:Nat)(k:Int)(l:List Seal)(w:World)(hown:Own w base 59 v l)(hn:l.length=n)(hsz:n≤12):
 Calls Tryd.prog 41 #[v,.int .i64 0,.int .i64 n,.int .i64 k,.func (.func 25) #[] #[]] w fun e w'=>∃l',e=.returned (.tuple #[])∧l'.Perm l∧byF l'∧Own w' base 59 v l'∧w.grownBy w' v.ownBlock:=by
 go_enter Tryd.func41,Tryd.ntmps41;go_wp2_with fail;refine wp_loop_rounds 1 ?_;rw[rounds_succ];go_wp2_with fail;refine(isort_any v base n l w hown hn hsz).mono ?_;rintro e w1 ⟨l',rfl,h1,h2,h3,h4⟩;have H1:=Lh h1;have H2:=Lh h2;clear h1 h2;go_wp2_with fail;refine bodyPost_ret (results_none rfl _ _ _) rfl ?_;exact⟨l',rfl,H1.out,H2.out,h3,h4⟩
theorem sort_any (v:Value)(base:Nat)(l:List Seal)(w:World)(hown:Own w base 59 v l)(hsz:l.length≤12):
 Calls Tryd.prog 24 #[v,.func (.func 25) #[] #[]] w fun e w'=>∃l',e=.returned (.tuple #[])∧l'.Perm l∧byF l'∧Own w' base 59 v l'∧w.grownBy w' v.ownBlock:=by
 obtain⟨A,c,rfl,hs⟩:=hown.sl;go_enter Tryd.func24,Tryd.ntmps24;go_wp2_with fail;refine(bits_Len (l.length:Int) _ (by omega) (by omega)).mono ?_;rintro e w1 ⟨rfl,rfl⟩;generalize ((Lib.bitLen (l.length:Int).toNat:Nat):Int)=k;go_wp2_with fail;refine(pdq_any (.slice A l.length c) base l.length k l _ hown rfl hsz).mono ?_;rintro e w1 ⟨l',rfl,h1,h2,h3,h4⟩;have H1:=Lh h1;have H2:=Lh h2;clear h1 h2;go_wp2_with fail;go_end0;exact⟨l',rfl,H1.out,H2.out,h3,h4⟩
end Go.Proofs.YtegaapiocihcpaaDoor
namespace Go.Proofs.YtegaapiocihcpaaDoor
open Go.RowKit
attribute [local go_sem ↓] Go.wp_at_zero Go.wp_at_succ
theorem span_info:(Tryd.prog.info? 52).map (fun i=>(i.zero,i.size,i.bytes))=some (some (.agg #[.int .i64 0,.int .i64 0]),Rep.size Span,16):=by kernel_rfl
theorem own_span_at {w:World}{base:Nat}{e:TypeId}{v:Value}{l:List Span}(h:Own w base e v l){k:Nat}(hk:k<l.length):
 ∃g cap,v=.slice (some ⟨g,0,none⟩) l.length cap∧base≤g∧g<w.heap.size∧l.length≤cap∧l[k].ok∧(∀o,w.frozen? ⟨g,o,none⟩=false)∧w.cell? ⟨g,k*2,none⟩=some (.int .i64 l[k].f)∧w.cell? ⟨g,k*2+1,none⟩=some (.int .i64 l[k].u):=by
 obtain⟨g,cap,es,rfl,hb,hlt,hc,⟨rfl,hok⟩,hcell,hfz⟩:=h.at_ hk;exact⟨g,cap,rfl,hb,hlt,hc,hok,hfz,hcell 0 _ rfl,hcell 1 _ rfl⟩
def Qbi (n:Int)(out:List Span)(s:Seal):List Span:=
 if h:0<out.length then
  if s.f≤(out[out.length-1]'(by omega)).u then out.set (out.length-1) ⟨(out[out.length-1]'(by omega)).f,max (out[out.length-1]'(by omega)).u (min s.u n)⟩
  else out++[⟨s.f,min s.u n⟩]
 else out++[⟨s.f,min s.u n⟩]
theorem Qdv (n:Int)(out:List Span)(s:Seal)(q:Nat)(hq:out.length=q+1)(hql:q<out.length)(h:s.f≤(out[q]'hql).u):Qbi n out s=out.set q ⟨(out[q]'hql).f,max (out[q]'hql).u (min s.u n)⟩:=by
 obtain rfl:q=out.length-1:=by omega
 unfold Qbi;rw[dif_pos (by omega),if_pos h]
theorem hidStep_no (n:Int)(out:List Span)(s:Seal)(q:Nat)(hq:out.length=q+1)(hql:q<out.length)(h:¬s.f≤(out[q]'hql).u):Qbi n out s=out++[⟨s.f,min s.u n⟩]:=by
 obtain rfl:q=out.length-1:=by omega
 unfold Qbi;rw[dif_pos (by omega),if_neg h]
theorem hidStep_nil (n:Int)(s:Seal):Qbi n [] s=[⟨s.f,min s.u n⟩]:=rfl
def Qcw (n:Int)(m:List Seal):List Span:=m.foldl (Qbi n) []
theorem QcA (n:Int)(m:List Seal)(k:Nat)(h:k<m.length):Qcw n (m.take (k+1))=Qbi n (Qcw n (m.take k)) m[k]:=by
 unfold Qcw;rw[qT h,List.foldl_append];rfl
theorem hidStep_le (n:Int)(out:List Span)(s:Seal):(Qbi n out s).length≤out.length+1:=by
 unfold Qbi;split
 ·split<;>simp
 ·simp
theorem hidTo_le (n:Int)(m:List Seal)(k:Nat):(Qcw n (m.take k)).length≤k:=by
 induction k with
 |zero=>simp[Qcw]
 |succ k ih=>
  by_cases h:k<m.length
  ·rw[QcA n m k h];have:=hidStep_le n (Qcw n (m.take k)) m[k];omega
  ·rw[List.take_of_length_le (by omega)];rw[List.take_of_length_le (by omega)] at ih;omega
theorem hidden_any (A:Option Addr)(c n:Nat)(l:List Seal)(e v x:Int)(w:World)(hl:Sl w (fun b=>b<w.heap.size) A c l)(hn:l.length=n)(hsz:n≤12)(hx:I64 x):
 Calls Tryd.prog 9 #[.slice A n c,.int .i64 e,.int .i64 v,.int .i64 x] w fun r w'=>∃y m,r=.returned y∧m.Perm (l.filter (onH e v x))∧byF m∧Own w' w.heap.size 52 y (Qcw x m)∧Below w.heap.size w w':=by
 have hb0:Below w.heap.size w (((w.alloc (.cells #[.int .i64 e] 3)).alloc (.cells #[.int .i64 v] 3)).alloc (.cells #[.int .i64 x] 3)):=
  ((bR.alloc nL _).alloc (by simp) _).alloc (by simp;omega) _
 have Hb0:=Lh hb0;have Hl0:=Lh (hl.to hb0);have hc1:(((w.alloc (.cells #[.int .i64 e] 3)).alloc (.cells #[.int .i64 v] 3)).alloc (.cells #[.int .i64 x] 3)).cell? ⟨w.heap.size,0,none⟩=some (.int .i64 e):=by go_simp
 have hc2:(((w.alloc (.cells #[.int .i64 e] 3)).alloc (.cells #[.int .i64 v] 3)).alloc (.cells #[.int .i64 x] 3)).cell? ⟨w.heap.size+1,0,none⟩=some (.int .i64 v):=by go_simp
 have hc3:(((w.alloc (.cells #[.int .i64 e] 3)).alloc (.cells #[.int .i64 v] 3)).alloc (.cells #[.int .i64 x] 3)).cell? ⟨w.heap.size+2,0,none⟩=some (.int .i64 x):=by go_simp
 clear hb0;go_enter Tryd.func9,Tryd.ntmps9;go_wp2_with fail;refine(selected_3 A c n l 23 _ _ _ (onH e v x) _ Hl0.out hn (by omega) (fun _ _=>by kernel_rfl) (fun s w' hb=>onH_any s _ _ _ e v x w' ((hb.cell (by first|(simp;done)|(simp;omega))).trans hc1) ((hb.cell (by first|(simp;done)|(simp;omega))).trans hc2) ((hb.cell (by first|(simp;done)|(simp;omega))).trans hc3))).mono ?_;rintro r w1 ⟨v1,rfl,hown1,hb1⟩;have hc4:=(hb1.cell (p:=⟨w.heap.size+2,0,none⟩) (by first|(simp;done)|(simp;omega))).trans hc3;have hbw1:Below w.heap.size w w1:=Hb0.out.trans (hb1.mono (by simp;omega));have hz1:w.heap.size+3≤w1.heap.size:=by have:=hb1.size;simp at this;omega
 have hown1:=hown1.re (B:=w.heap.size+3) (by simp);have hfl:(l.filter (onH e v x)).length≤12:=by have:=List.length_filter_le (onH e v x) l;omega
 have Ho1:=Lh hown1;clear hc1 hc2 hc3 hb1 hown1 Hb0 Hl0;go_wp2_with fail;refine(sort_any v1 (w.heap.size+3) (l.filter (onH e v x)) w1 Ho1.out hfl).mono ?_;rintro r w2 ⟨m,rfl,hperm,hsorted,hown2,hg2⟩;have hml:m.length≤12:=by rw[hperm.length_eq];exact hfl
 have hmok:∀s∈m,True:=fun _ _=>trivial
 have hc5:w2.cell? ⟨w.heap.size+2,0,none⟩=some (.int .i64 x):=(World.cell?_of_block (a:=⟨w.heap.size+2,0,none⟩) (keep_cat Ho1.out hg2 (b:=w.heap.size+2) (by omega) (by omega))).trans hc4;have hbw2:Below w.heap.size w w2:=QaE hbw1 (Ho1.out.re (B:=w.heap.size) (by omega)) (by omega) hg2;have hz2:w.heap.size+3≤w2.heap.size:=by have:=hg2.size;omega
 obtain⟨A2,c2,rfl,hs2⟩:=hown2.sl;have Hp:=Lh hperm;have Hs:=Lh hsorted;clear hc4 hperm hsorted Ho1 hg2 hown2 hmok hfl;obtain⟨hx0,hx1⟩:=hx;go_wp2_with fail;go_loopw [10,22] (fun o i wr=>∃k:Nat,k≤m.length∧i=.int .i64 k∧Own wr w2.heap.size 52 o (Qcw x (m.take k))∧Below w2.heap.size w2 wr) (fun _ i _=>m.length-(intOf i).toNat);(case atStart=>exact⟨0,Nat.zero_le _,rfl,Own.nil _ _ _,Below.refl _ _⟩);case round=>
  obtain⟨k,hk,rfl,hown,hb⟩:=hrel;have hwz:=hb.size;by_cases hlt:k<m.length
  ·obtain⟨b,o,rfl,hbS,hbl,hok,d0,d1,d2,d3,d4⟩:=Qca (hs2.to hb) hlt;have hkl:(k:Int)<(m.length:Int):=(by omega);have hcx:wr.cell? ⟨w.heap.size+2,0,none⟩=some (.int .i64 x):=(hb.cell (p:=⟨w.heap.size+2,0,none⟩) (by show w.heap.size+2<w2.heap.size;omega)).trans hc5;have hcx2:∀ob,(wr.alloc ob).cell? ⟨w.heap.size+2,0,none⟩=some (.int .i64 x):=fun ob=>(World.cell?_alloc_lt wr ob ⟨w.heap.size+2,0,none⟩ (by show w.heap.size+2<wr.heap.size;omega)).trans hcx
   have hole:=hidTo_le x m k;have HS:=Lh (QcA x m k hlt);obtain⟨o1,o2,o3,o4,o5⟩:=hok;obtain⟨q1,q2⟩:=o3;obtain⟨q3,q4⟩:=o4;have hmn:I64 (min m[k].u x):=⟨by omega,by omega⟩;have HB2:=Lh (show ∀nq:Nat,(((wr.alloc (.cells #[.int .i64 m[k].e,.int .i64 m[k].v,.int .i64 m[k].f,.int .i64 m[k].u,.int .i64 m[k].g] 59)).alloc (.cells #[.int .i64 m[k].f,.int .i64 (min m[k].u x)] 52)).drewN nq).heap[wr.heap.size+1]? =some (.cells #[.int .i64 m[k].f,.int .i64 (min m[k].u x)] 52) from fun nq=>heap_at_dn (by simp));generalize Qcw x (m.take k)=out at*;clear hcx o1 o2 o5;by_cases hne:0<out.length
   ·obtain⟨q,hq⟩:∃q,out.length=q+1:=⟨out.length-1,by omega⟩;have hql:q<out.length:=(by omega);obtain⟨g,cap,rfl,hbg,hgl,hnc,hok1,hfz,f0,f1⟩:=own_span_at hown hql;have Hq:=Lh hq;have hql2:(q:Int)<(out.length:Int):=(by omega);have hql3:(out.length:Int)-1=(q:Int):=(by omega);have hql4:(0:Int)≤(q:Int):=(by omega);have hoq:out.length≤12:=(by omega);by_cases hle:m[k].f≤out[q].u
    ·rw[Qdv x out m[k] q hq hql hle] at HS;clear hq hne;go_wp2_with fail;go_quiet (fail);go_wp2_with fail;go_roundw;case rel=>
      have hmx:I64 (max out[q].u (min m[k].u x)):=by obtain⟨_,h1,h2⟩:=hok1;exact⟨by omega,by omega⟩
      have hj:=Own.setf ((hown.alloc (.cells #[.int .i64 m[k].e,.int .i64 m[k].v,.int .i64 m[k].f,.int .i64 m[k].u,.int .i64 m[k].g] 59)).drewN nq) q 1 hql (by decide) (.int .i64 (max out[q].u (min m[k].u x))) rfl (⟨out[q].f,max out[q].u (min m[k].u x)⟩:Span) (by
       rintro S es ⟨rfl,o6,o7⟩;exact⟨rfl,o6,hmx⟩) rfl
      refine⟨k+1,by omega,by go_num,by rw[HS.out];exact hj.1,?_⟩;exact(Below.dn (hb.alloc hwz _) nq).grown hj.2 (by simp;omega) (by rintro g' e;cases e;exact hbg)
     case measure=>simp[intOf];omega
    ·rw[hidStep_no x out m[k] q hq hql hle] at HS;clear hq hne;go_wp2_with fail;go_quiet (fail);go_wp2_with (at_builtin;refine Qan (α:=Span) _ rfl (.tmp 56) (.tmp 61) 39 rfl w2.heap.size 52 (.agg #[.int .i64 0,.int .i64 0]) 16 Tryd.underlying39 span_info rfl (by decide) _ _ rfl (((hown.alloc (.cells #[.int .i64 m[k].e,.int .i64 m[k].v,.int .i64 m[k].f,.int .i64 m[k].u,.int .i64 m[k].g] 59)).alloc (.cells #[.int .i64 m[k].f,.int .i64 (min m[k].u x)] 52)).drewN nq) (wr.heap.size+1) _ (⟨m[k].f,min m[k].u x⟩:Span) (0,0) 52 rfl (HB2.out nq) ⟨rfl,⟨⟨q1,q2⟩,hmn⟩⟩ (by first|omega|(simp;omega)) (by first|omega|(simp;omega)) (by first|omega|(simp;omega)) _ rfl ?_;intro g3 cap3 w3 hown3 hg3 hat3 hlt3);go_roundw;(case rel=>exact⟨k+1,by omega,by go_num,by rw[HS.out];exact hown3,(Below.dn ((hb.alloc hwz _).alloc (by simp;omega) _) _).grown hg3 (by simp;omega) (fun g' e=>(hown.lt g' e).1)⟩);case measure=>simp[intOf];omega
   ·obtain rfl:out=[]:=List.eq_nil_of_length_eq_zero (by omega);rw[hidStep_nil] at HS;clear hne;obtain⟨A3,c3,rfl,_,_,_⟩:=hown.form;go_wp2_with fail;go_quiet (fail);go_wp2_with (at_builtin;refine Qan (α:=Span) _ rfl (.tmp 56) (.tmp 61) 39 rfl w2.heap.size 52 (.agg #[.int .i64 0,.int .i64 0]) 16 Tryd.underlying39 span_info rfl (by decide) _ _ rfl (((hown.alloc (.cells #[.int .i64 m[k].e,.int .i64 m[k].v,.int .i64 m[k].f,.int .i64 m[k].u,.int .i64 m[k].g] 59)).alloc (.cells #[.int .i64 m[k].f,.int .i64 (min m[k].u x)] 52)).drewN nq) (wr.heap.size+1) _ (⟨m[k].f,min m[k].u x⟩:Span) (0,0) 52 rfl (HB2.out nq) ⟨rfl,⟨⟨q1,q2⟩,hmn⟩⟩ (by first|omega|(simp;omega)) (by first|omega|(simp;omega)) (by first|omega|(simp;omega)) _ rfl ?_;intro g3 cap3 w3 hown3 hg3 hat3 hlt3);go_roundw;(case rel=>exact⟨k+1,by omega,by go_num,by rw[HS.out];exact hown3,(Below.dn ((hb.alloc hwz _).alloc (by simp;omega) _) _).grown hg3 (by simp;omega) (fun g' e=>(hown.lt g' e).1)⟩);case measure=>simp[intOf];omega
  ·go_wp2_with fail;go_ret;exact⟨_,m,rfl,Hp.out,Hs.out,by rw[List.take_of_length_le (by omega)] at hown;exact hown.re (by omega),hbw2.trans (hb.mono hbw2.size)⟩
end Go.Proofs.YtegaapiocihcpaaDoor
namespace Go.Proofs.YtegaapiocihcpaaDoor
open Go.RowKit
def cov (l:List Seal)(e v x:Int):Prop:=∃s∈l,onP e v x s=true
theorem onP_iff (e v x:Int)(s:Seal):onP e v x s=true↔s.e=e∧s.v=v∧s.f≤x∧x<s.u:=by unfold onP;exact decide_eq_true_iff
theorem onH_iff (e v x:Int)(s:Seal):onH e v x s=true↔s.e=e∧s.v=v∧s.f<x:=by unfold onH;exact decide_eq_true_iff
theorem hidStep_eq (n:Int)(out:List Span)(s:Seal):Qbi n out s=Qb1 s.f (min s.u n) out:=by
 rcases List.eq_nil_or_concat out with rfl|⟨p,y,rfl⟩
 ·rfl
 ·rw[List.concat_eq_append,hstep_last];have hq:(p++[y]).length=p.length+1:=(by simp);have hg:(p++[y])[p.length]'(by omega)=y:=(by simp);by_cases h:s.f≤y.u
  ·rw[Qdv n (p++[y]) s p.length hq (by omega) (by rw[hg];exact h),if_pos h];simp only[hg];rw[List.set_append_right _ _ nL];simp
  ·rw[hidStep_no n (p++[y]) s p.length hq (by omega) (by rw[hg];exact h),if_neg h];simp
theorem hidTo_canon (l m:List Seal)(e v n:Int)(hperm:m.Perm (l.filter (onH e v n)))(hs:byF m)(hval:∀s∈l,0≤s.f∧s.f<s.u):Canon (cov l e v) n 0 (Qcw n m):=by
 have hm:∀s,s∈m↔s∈l∧onH e v n s=true:=fun s=>by rw[hperm.mem_iff,List.mem_filter]
 have key:∀k,k≤m.length→Canon (fun x=>∃s∈m.take k,s.f≤x∧x<min s.u n) n 0 (Qcw n (m.take k))∧∀sp∈Qcw n (m.take k),∃s∈m.take k,sp.f=s.f:=by
  intro k;induction k with
  |zero=>intro _;exact⟨fun x _ _ h=>by simp at h,by simp[Qcw]⟩
  |succ k ih=>
   intro hk;obtain⟨h1,h2⟩:=ih (by omega);have hmk:=(hm m[k]).1 (List.getElem_mem _);have hv:=hval _ hmk.1;have hon:=(onH_iff _ _ _ _).1 hmk.2;rw[QcA n m k (by omega),hidStep_eq];have hle:∀s∈m.take k,s.f≤m[k].f:=by
    intro s hs';obtain⟨i,hi,rfl⟩:=List.getElem_of_mem hs';have hik:i<k:=(by rw[qK] at hi;omega);rw[List.getElem_take];exact hs i k hik (by omega) _ _ (qG (by omega)) (qG (by omega))
   refine⟨(hstep_canon h1 (fun sp hsp=>by obtain⟨s,hs',e'⟩:=h2 sp hsp;rw[e'];exact hle s hs') hv.1 (by omega) (by omega)).congr ?_,?_⟩
   ·intro x _ _;rw[qT (by omega)];constructor
    ·rintro(⟨s,hs',h⟩|h)
     ·exact⟨s,List.mem_append_left _ hs',h⟩
     ·exact⟨m[k],List.mem_append_right _ (List.mem_singleton_self _),h⟩
    ·rintro⟨s,hs',h⟩;rcases List.mem_append.1 hs' with hs'|hs'
     ·exact .inl ⟨s,hs',h⟩
     ·simp at hs';subst hs';exact .inr h
   ·intro sp hsp;rw[qT (by omega)];rcases hstep_f _ _ _ sp hsp with h|⟨t,ht,h⟩
    ·exact⟨m[k],List.mem_append_right _ (List.mem_singleton_self _),h⟩
    ·obtain⟨s,hs',h'⟩:=h2 t ht;exact⟨s,List.mem_append_left _ hs',h.trans h'⟩
 have h:=(key m.length nL).1;rw[List.take_of_length_le nL] at h;refine h.congr fun x hx0 hxn=>?_
 constructor
 ·rintro⟨s,hs',h1,h2⟩;have h3:=(hm s).1 hs';have h4:=(onH_iff _ _ _ _).1 h3.2;exact⟨s,h3.1,(onP_iff _ _ _ _).2 ⟨h4.1,h4.2.1,h1,by omega⟩⟩
 ·rintro⟨s,hs',h1⟩;have h2:=(onP_iff _ _ _ _).1 h1;exact⟨s,(hm s).2 ⟨hs',(onH_iff _ _ _ _).2 ⟨h2.1,h2.2.1,by omega⟩⟩,h2.2.2.1,by omega⟩
end Go.Proofs.YtegaapiocihcpaaDoor
namespace Go.Proofs.YtegaapiocihcpaaDoor
open Go.RowKit
attribute [local go_sem ↓] Go.wp_at_zero Go.wp_at_succ
end Go.Proofs.YtegaapiocihcpaaDoor
namespace Go.Proofs.YtegaapiocihcpaaDoor
open Go.RowKit
attribute [local go_sem ↓] Go.wp_at_zero Go.wp_at_succ
def sv (s:Seal):Value:=.agg #[.int .i64 s.e,.int .i64 s.v,.int .i64 s.f,.int .i64 s.u,.int .i64 s.g]
def MapIs (w:World)(b:Nat)(l:List Seal):Prop:=∃es clock,w.heap[b]? =some (.map es clock)∧es.toList.map (fun x=>(x.key,x.val))=l.map (fun s=>(sv s,Value.bool true))
theorem run_equal_seal (a b:Seal)(w:World):(Op.equal 59 (sv a) (sv b)).run Tryd.prog w=.ok (decide (a=b)) w:=by
 obtain⟨a1,a2,a3,a4,a5⟩:=a;obtain⟨b1,b2,b3,b4,b5⟩:=b;simp only[Seal.mk.injEq,sv,Op.equal,Op.maxDepth];go_simp;(repeat' split);all_goals simp[*]
theorem QbZ (s:Seal)(w:World):∀(es:List MapEntry) (l:List Seal) (i:Nat),es.map (fun x=>(x.key,x.val))=l.map (fun s=>(sv s,Value.bool true))→ ∃r,(Instr.findAsking 59 (sv s) es i).run Tryd.prog w=.ok r w∧(s∈l→∃j,r=some (j,.bool true))∧(s∉l→r=none)
 |[],l,i,h=>by
  cases l with
  |nil=>exact⟨none,rfl,by simp,fun _=>rfl⟩
  |cons y r=>simp at h
 |x::es,l,i,h=>by
  cases l with
  |nil=>simp at h
  |cons y r=>
   simp only[List.map_cons,List.cons.injEq,Prod.mk.injEq] at h;obtain⟨⟨h1,h2⟩,h3⟩:=h;unfold Instr.findAsking;rw[Sem.run_bind,h1,run_equal_seal];by_cases e:s=y
   ·rw[decide_eq_true e];exact⟨some (i,x.val),rfl,fun _=>⟨i,by rw[h2]⟩,fun hn=>absurd (by rw[e];exact List.mem_cons_self) hn⟩
   ·rw[decide_eq_false e];obtain⟨q,k1,k2,k3⟩:=QbZ s w es r (i+1) h3;exact⟨q,k1,fun hm=>k2 ((List.mem_cons.1 hm).resolve_left e),fun hn=>k3 (fun hm=>hn (List.mem_cons_of_mem _ hm))⟩
theorem Qbo (c:Bool)(s:Seal)(w:World):(Instr.checkKey c 10000 59 (sv s)).run Tryd.prog w=.ok () w:=by
 unfold sv;kernel_rfl
theorem QbB (s:Seal)(w:World)(es:List MapEntry)(l:List Seal)(h:es.map (fun x=>(x.key,x.val))=l.map (fun s=>(sv s,Value.bool true))):
 ∃r,(Instr.findKey 59 (sv s) es).run Tryd.prog w=.ok r w∧(s∈l→∃j,r=some (j,.bool true))∧(s∉l→r=none):=by
 unfold Instr.findKey;rw[Sem.run_bind,run_underlying Tryd.underlying59,Result.andThen_ok];cases es with
 |nil=>
  cases l with
  |nil=>exact⟨none,rfl,by simp,fun _=>rfl⟩
  |cons y r=>simp at h
 |cons x es=>
  simp only[Instr.findNow,Instr.sameNow];exact QbZ s w (x::es) l 0 h
theorem lookup_seal {w:World}{b:Nat}{l:List Seal}(h:MapIs w b l)(s:Seal):(Instr.lookup 95 (.map (some b)) (sv s) false).run Tryd.prog w=.ok (.bool (decide (s∈l))) w:=by
 obtain⟨es,clock,hb,hes⟩:=h;obtain⟨r,h1,h2,h3⟩:=QbB s w es.toList l hes;have hz:(zeroValue 4).run Tryd.prog w=.ok (.bool false) w:=by kernel_rfl
 have hg:(getObj b).run Tryd.prog w=.ok (.map es clock) w:=MapKept.run_getObj_map hb;unfold Instr.lookup;simp only[Sem.run_bind,run_underlying Tryd.underlying95,Result.andThen_ok,hg,Sem.run_pure,Qbo,h1];by_cases hin:s∈l
 ·obtain⟨j,rfl⟩:=h2 hin;simp[hin]
 ·rw[h3 hin];simp[hin,hz]
def Qc0 (w:World)(b:Nat)(es:Array MapEntry)(clock:Nat)(s:Seal):World:={w with heap:=w.heap.setIfInBounds b (.map (es.push {key:=sv s,val:=.bool true,born:=clock}) (clock+1))}
theorem update_seal {w:World}{b:Nat}{l:List Seal}(h:MapIs w b l)(s:Seal)(hs:s∉l):∃w',(Instr.mapUpdate 95 (.map (some b)) (sv s) (.bool true)).run Tryd.prog w=.ok () w'∧MapIs w' b (l++[s])∧w.grownBy w' (some b):=by
 obtain⟨es,clock,hb,hes⟩:=h;obtain⟨r,h1,h2,h3⟩:=QbB s w es.toList l hes;have hg:(getObj b).run Tryd.prog w=.ok (.map es clock) w:=MapKept.run_getObj_map hb;have hlt:b<w.heap.size:=(Array.getElem?_eq_some_iff.1 hb).1;refine⟨Qc0 w b es clock s,?_,?_,?_⟩
 ·unfold Instr.mapUpdate;simp only[Sem.run_bind,run_underlying Tryd.underlying95,Result.andThen_ok,hg,Qbo,h1,h3 hs];simp[setObj,Sem.run,hb,Qc0]
 ·exact⟨es.push {key:=sv s,val:=.bool true,born:=clock},clock+1,by simp[Qc0,hlt],by simp[hes]⟩
 ·refine⟨rfl,rfl,rfl,by simp[Qc0],fun k _ hk=>?_⟩;have hkb:k≠b:=fun e=>hk (by rw[e])
  simp[Qc0,Ne.symm hkb]
theorem MapIs.kept {w w':World}{b:Nat}{l:List Seal}(h:MapIs w b l)(hk:w'.heap[b]? =w.heap[b]?):MapIs w' b l:=by
 obtain⟨es,clock,hb,hes⟩:=h;exact⟨es,clock,hk.trans hb,hes⟩
theorem MapIs.lt {w:World}{b:Nat}{l:List Seal}(h:MapIs w b l):b<w.heap.size:=by
 obtain⟨es,clock,hb,hes⟩:=h;exact(Array.getElem?_eq_some_iff.1 hb).1
theorem scheck_any (A:Option Addr)(c n:Nat)(l:List Seal)(w:World)(hl:Sl w (fun b=>b<w.heap.size) A c l)(hn:l.length=n):
 Calls Tryd.prog 32 #[.slice A n c] w fun e w'=>e=.returned (.int .i64 (schk l))∧Below w.heap.size w w':=by
 subst hn;have hlen:l.length≤9223372036854775807:=by have:=hl.1;have:=hl.2.1;unfold maxLen at this;omega
 by_cases hbig:1000<l.length
 ·have hfin:schk l=2:=by unfold schk;rw[if_pos hbig]
  have Hfin:=Lh hfin;clear hfin;go_enter Tryd.func32,Tryd.ntmps32;go_wp2_with fail;go_ret;exact⟨Qae Hfin.out.symm,Below.refl _ _⟩
 ·have hfin:schk l=chkTo [] l:=by unfold schk;rw[if_neg hbig]
  have Hfin:=Lh hfin;clear hfin;have hmm:=@run_makeMap Tryd.prog;go_enter Tryd.func32,Tryd.ntmps32;go_wp2_with fail;clear hmm;go_loopw [12] (fun i wr=>∃k:Nat,k≤l.length∧i=.int .i64 k∧Hid (schk l=chkTo (l.take k) (l.drop k))∧Below w.heap.size w wr∧MapIs wr w.heap.size (l.take k)) (fun i _=>l.length-(intOf i).toNat);(case atStart=>exact⟨0,Nat.zero_le _,rfl,Hfin.out,bR.alloc nL _,⟨#[],0,heap_alloc_new w _,rfl⟩⟩);case round=>
   obtain⟨k,hk,rfl,hi,hb,hmap⟩:=hrel;have Hmap:=Lh hmap;have hml:=hmap.lt;clear hmap;by_cases hlt:k<l.length
   ·obtain⟨_,_,rfl,_,_,hok,c0,c1,c2,c3,c4⟩:=Qca (hl.to hb) hlt;have hkl:(k:Int)<(l.length:Int):=(by omega);have hat:=Lh (chkTo_at l k hlt);have hts:=Lh (qT hlt);have hbx:(wr.alloc (.cells l[k].cells.toArray 59)).heap[wr.heap.size]? =some (.cells l[k].cells.toArray 59 (0,0)):=heap_alloc_new wr _;have Hbx:=Lh hbx;clear hbx;have hwz:=hb.size;go_wp2_with fail;refine(svalid_any l[k] _).mono ?_;rintro e w1 ⟨rfl,hb1⟩;have hB1:=(hb1.block wr.heap.size (by simp)).trans Hbx.out;obtain⟨e0,e1,e2,e3,e4⟩:=QaS hB1;have hbb1:Below wr.heap.size wr w1:=(bR.alloc nL _).trans (hb1.mono (by simp));have hbw1:Below w.heap.size w w1:=hb.trans (hbb1.mono hb.size);have hmap1:MapIs w1 w.heap.size (l.take k):=Hmap.out.kept (hbb1.block _ hml);have hlk:(Instr.lookup 95 (.map (some w.heap.size)) (.agg #[.int .i64 l[k].e,.int .i64 l[k].v,.int .i64 l[k].f,.int .i64 l[k].u,.int .i64 l[k].g]) false).run Tryd.prog w1=.ok (.bool (decide (l[k]∈l.take k))) w1:=lookup_seal hmap1 l[k];have Hmap1:=Lh hmap1;clear hB1 c0 c1 c2 c3 c4 hmap1;cases hv:vld l[k]
    ·rw[hv] at hat;have Hv:=Lh hv;clear hv;go_wp2_with fail;go_ret;exact⟨Qae (by rw[hi.out,hat.out];rfl),hbw1⟩
    ·rw[hv] at hat;have Hv:=Lh hv;clear hv;by_cases hin:l[k]∈l.take k
     ·rw[if_neg (by simp),if_pos hin] at hat;rw[decide_eq_true hin] at hlk;clear hin;go_wp2_with fail;go_ret;exact⟨Qae (by rw[hi.out,hat.out]),hbw1⟩
     ·rw[if_neg (by simp),if_neg hin] at hat;rw[decide_eq_false hin] at hlk;obtain⟨w2,hup,hmap2,hg2⟩:=update_seal Hmap1.out l[k] hin;unfold sv at hup;have hbw2:Below w.heap.size w w2:=hbw1.grown hg2 hbw1.size (by rintro g e;cases e;omega);have Hin:=Lh hin;clear hin;go_wp2_with fail;go_roundw;(case rel=>exact⟨k+1,by omega,by go_num,by rw[hi.out,hat.out];rfl,hbw2,by rw[hts.out];exact hmap2⟩);case measure=>simp[intOf];omega
   ·go_wp2_with fail;go_ret;exact⟨Qae (by rw[hi.out,List.drop_of_length_le (by omega)];rfl),hb⟩
end Go.Proofs.YtegaapiocihcpaaDoor
namespace Go.Proofs.YtegaapiocihcpaaDoor
open Go.RowKit
attribute [local go_sem ↓] Go.wp_at_zero Go.wp_at_succ
theorem hidden_c (A:Option Addr)(c n:Nat)(l:List Seal)(e v x:Int)(w:World)(hl:Sl w (fun b=>b<w.heap.size) A c l)(hn:l.length=n)(hsz:n≤12)(hx:I64 x)(hval:∀s∈l,0≤s.f∧s.f<s.u):
 Calls Tryd.prog 9 #[.slice A n c,.int .i64 e,.int .i64 v,.int .i64 x] w fun r w'=>∃y out,r=.returned y∧Canon (cov l e v) x 0 out∧Own w' w.heap.size 52 y out∧Below w.heap.size w w':=
 (hidden_any A c n l e v x w hl hn hsz hx).mono fun _ _ ⟨y,m,h1,h2,h3,h4,h5⟩=>⟨y,_,h1,hidTo_canon l m e v x h2 h3 hval,h4,h5⟩
def exL:List Seal:=[⟨1,5,2,4,0⟩,⟨1,5,3,6,2⟩,⟨1,7,0,9,1⟩]
theorem exL_g:∀s∈exL,0≤s.g∧s.g<16:=by decide
theorem exL_v:∀s∈exL,0≤s.f∧s.f<s.u:=by decide
theorem Qcx (x:Int):cov exL 1 5 x↔(2≤x∧x<6):=by
 constructor
 ·rintro⟨s,hs,h⟩;have h2:=(onP_iff _ _ _ _).1 h;simp only[exL,List.mem_cons,List.not_mem_nil,or_false] at hs;rcases hs with rfl|rfl|rfl<;>simp only at h2<;>omega
 ·intro h;by_cases h4:x<4
  ·exact⟨⟨1,5,2,4,0⟩,by simp[exL],(onP_iff _ _ _ _).2 ⟨rfl,rfl,by simp only;omega,by simp only;omega⟩⟩
  ·exact⟨⟨1,5,3,6,2⟩,by simp[exL],(onP_iff _ _ _ _).2 ⟨rfl,rfl,by simp only;omega,by simp only;omega⟩⟩
theorem ex_can1:Canon (cov exL 1 5) 10 0 [⟨2,6⟩]:=by
 refine⟨by decide,by decide,by decide,fun x h1 h2 h=>?_,fun x h1 h2=>?_,fun _ h=>?_,fun x h1 h2 h=>?_⟩
 ·have:=(Qcx x).1 h;simp only at h2;omega
 ·exact(Qcx x).2 ⟨h1,h2⟩
 ·have:=(Qcx _).1 h;simp only at this;omega
 ·have:=(Qcx x).1 h;simp only at h1;omega
theorem ex_can2:Canon (cov exL 1 5) 3 0 [⟨2,3⟩]:=by
 refine⟨by decide,by decide,by decide,fun x h1 h2 h=>?_,fun x h1 h2=>?_,fun h1 h=>?_,fun x h1 h2 h=>?_⟩
 ·have:=(Qcx x).1 h;simp only at h2;omega
 ·exact(Qcx x).2 ⟨h1,by simp only at h2;omega⟩
 ·simp only at h1;omega
 ·simp only at h1;omega
set_option maxRecDepth 100000 in
theorem lives_any (w:World):Calls Tryd.prog 13 #[] w fun e w'=>e=.returned (.bool true)∧Below w.heap.size w w':=by
 have hsl:Sl (w.alloc (.cells #[.int .i64 1,.int .i64 5,.int .i64 2,.int .i64 4,.int .i64 0,.int .i64 1,.int .i64 5,.int .i64 3,.int .i64 6,.int .i64 2,.int .i64 1,.int .i64 7,.int .i64 0,.int .i64 9,.int .i64 1] 59)) (fun b=>b<(w.alloc (.cells #[.int .i64 1,.int .i64 5,.int .i64 2,.int .i64 4,.int .i64 0,.int .i64 1,.int .i64 5,.int .i64 3,.int .i64 6,.int .i64 2,.int .i64 1,.int .i64 7,.int .i64 0,.int .i64 9,.int .i64 1] 59)).heap.size) (some ⟨w.heap.size,0,none⟩) 3 exL:=by
  refine Sl.block (heap_alloc_new w _) (by simp) (by decide) (fun i hi=>?_);have:i=0∨i=1∨i=2:=(by simp[exL] at hi;omega);rcases this with rfl|rfl|rfl
  ·exact⟨rfl,by simp only[exL,List.getElem_cons_zero,Seal.ok,I64];omega⟩
  ·exact⟨rfl,by simp only[exL,List.getElem_cons_zero,List.getElem_cons_succ,Seal.ok,I64];omega⟩
  ·exact⟨rfl,by simp only[exL,List.getElem_cons_zero,List.getElem_cons_succ,Seal.ok,I64];omega⟩
 have Hs:=Lh hsl;have Hb0:=Lh (Below.refl (w.alloc (.cells #[.int .i64 1,.int .i64 5,.int .i64 2,.int .i64 4,.int .i64 0,.int .i64 1,.int .i64 5,.int .i64 3,.int .i64 6,.int .i64 2,.int .i64 1,.int .i64 7,.int .i64 0,.int .i64 9,.int .i64 1] 59)).heap.size (w.alloc (.cells #[.int .i64 1,.int .i64 5,.int .i64 2,.int .i64 4,.int .i64 0,.int .i64 1,.int .i64 5,.int .i64 3,.int .i64 6,.int .i64 2,.int .i64 1,.int .i64 7,.int .i64 0,.int .i64 9,.int .i64 1] 59)));have ok26:Span.ok ⟨2,6⟩:=⟨⟨by decide,by decide⟩,⟨by decide,by decide⟩⟩;have ok23:Span.ok ⟨2,3⟩:=⟨⟨by decide,by decide⟩,⟨by decide,by decide⟩⟩;clear hsl;have HL0:=Lh (heap_alloc_new w (.cells #[.int .i64 1,.int .i64 5,.int .i64 2,.int .i64 4,.int .i64 0,.int .i64 1,.int .i64 5,.int .i64 3,.int .i64 6,.int .i64 2,.int .i64 1,.int .i64 7,.int .i64 0,.int .i64 9,.int .i64 1] 59));have K1:=Lh (show gset (exL.filter (onP 1 5 2))=1 from by decide);have K2:=Lh (show gset (exL.filter (onP 1 5 3))=5 from by decide);have K3:=Lh (show gset (exL.filter (onP 1 5 5))=4 from by decide);have K4:=Lh (show gset (exL.filter (onP 1 5 6))=0 from by decide);have M1:=Lh (show may (gset (exL.filter (onP 1 5 2))) 1=true from by decide);have M2:=Lh (show may (gset (exL.filter (onP 1 5 3))) 1=false from by decide);have A1:=Lh (show Qdo exL ⟨1,5,3,6,2⟩=([],4) from by decide);have A2:=Lh (show Qdo exL ⟨0,0,4,4,0⟩=([],5) from by decide);have A3:=Lh (show Qdo exL ⟨0,0,4,5,16⟩=([],5) from by decide);have C1:=Lh (show schk exL=0 from by decide);go_enter Tryd.func13,Tryd.ntmps13;go_wp2_with fail;refine(Qbp _ 3 3 exL 1 5 2 _ Hs.out rfl (by decide) exL_g).mono ?_;rintro e w1 ⟨rfl,hb1⟩;rw[K1.out];have Hs1:=Lh (Hs.out.to hb1);have Hb1:=Lh (Hb0.out.trans (hb1.mono Hb0.out.size));clear hb1;go_wp2_with fail;refine(Qbp _ 3 3 exL 1 5 3 _ Hs1.out rfl (by decide) exL_g).mono ?_;rintro e w2 ⟨rfl,hb1⟩;rw[K2.out];have Hs2:=Lh (Hs1.out.to hb1);have Hb2:=Lh (Hb1.out.trans (hb1.mono Hb1.out.size));clear hb1;go_wp2_with fail;refine(Qbp _ 3 3 exL 1 5 5 _ Hs2.out rfl (by decide) exL_g).mono ?_;rintro e w3 ⟨rfl,hb1⟩;rw[K3.out];have Hs3:=Lh (Hs2.out.to hb1);have Hb3:=Lh (Hb2.out.trans (hb1.mono Hb2.out.size));clear hb1;go_wp2_with fail;refine(Qbp _ 3 3 exL 1 5 6 _ Hs3.out rfl (by decide) exL_g).mono ?_;rintro e w4 ⟨rfl,hb1⟩;rw[K4.out];have Hs4:=Lh (Hs3.out.to hb1);have Hb4:=Lh (Hb3.out.trans (hb1.mono Hb3.out.size));clear hb1;go_wp2_with fail;refine(may_any _ 3 3 exL 1 1 5 2 _ Hs4.out rfl (by decide) exL_g).mono ?_;rintro e w5 ⟨rfl,hb1⟩;rw[M1.out];have Hs5:=Lh (Hs4.out.to hb1);have Hb5:=Lh (Hb4.out.trans (hb1.mono Hb4.out.size));clear hb1;go_wp2_with fail;refine(may_any _ 3 3 exL 1 1 5 3 _ Hs5.out rfl (by decide) exL_g).mono ?_;rintro e w6 ⟨rfl,hb1⟩;rw[M2.out];have Hs6:=Lh (Hs5.out.to hb1);have Hb6:=Lh (Hb5.out.trans (hb1.mono Hb5.out.size));clear hb1;go_wp2_with fail;refine(hidden_c _ 3 3 exL 1 5 10 _ Hs6.out rfl (by decide) ⟨by decide,by decide⟩ exL_v).mono ?_;rintro e w7 ⟨y,out,rfl,hcan,hown,hb1⟩;obtain rfl:=hcan.unique ex_can1;obtain⟨A7x,c7x,rfl,hsy⟩:=hown.sl;have Hs7:=Lh (Hs6.out.to hb1);have Hb7:=Lh (Hb6.out.trans (hb1.mono Hb6.out.size));have Hy:=Lh hsy;clear hb1 hown hcan hsy;go_wp2_with fail
 refine(same_spans A7x (some ⟨w7.heap.size,0,none⟩) c7x 1 [⟨2,6⟩] [⟨2,6⟩] _ (Hy.out.alloc _) (Sl.block (heap_alloc_new w7 _) (by simp) (by decide) (fun i hi=>by
  obtain rfl:i=0:=by simp at hi;omega
  exact⟨rfl,ok26⟩))).mono ?_
 rintro e w8 ⟨rfl,hb1⟩;rw[decide_eq_true rfl];have hbb1:Below w7.heap.size w7 w8:=(bR.alloc nL _).trans (hb1.mono (by simp));have Hs8:=Lh (Hs7.out.to hbb1);have Hb8:=Lh (Hb7.out.trans (hbb1.mono Hb7.out.size));clear hb1 hbb1 Hy;go_wp2_with fail;refine(hidden_c _ 3 3 exL 1 5 3 _ Hs8.out rfl (by decide) ⟨by decide,by decide⟩ exL_v).mono ?_;rintro e w9 ⟨y,out,rfl,hcan,hown,hb1⟩;obtain rfl:=hcan.unique ex_can2;obtain⟨A9x,c9x,rfl,hsy⟩:=hown.sl;have Hs9:=Lh (Hs8.out.to hb1);have Hb9:=Lh (Hb8.out.trans (hb1.mono Hb8.out.size));have Hy:=Lh hsy;clear hb1 hown hcan hsy;go_wp2_with fail
 refine(same_spans A9x (some ⟨w9.heap.size,0,none⟩) c9x 1 [⟨2,3⟩] [⟨2,3⟩] _ (Hy.out.alloc _) (Sl.block (heap_alloc_new w9 _) (by simp) (by decide) (fun i hi=>by
  obtain rfl:i=0:=by simp at hi;omega
  exact⟨rfl,ok23⟩))).mono ?_
 rintro e w10 ⟨rfl,hb1⟩;rw[decide_eq_true rfl];have hbb1:Below w9.heap.size w9 w10:=(bR.alloc nL _).trans (hb1.mono (by simp));have Hs10:=Lh (Hs9.out.to hbb1);have Hb10:=Lh (Hb9.out.trans (hbb1.mono Hb9.out.size));clear hb1 hbb1 Hy;have hL:=(Hb10.out.block w.heap.size (by simp)).trans HL0.out;have e0:=cell_of_row w10 _ 5 _ _ _ hL;have e1:=cell_of_row w10 _ 6 _ _ _ hL;have e2:=cell_of_row w10 _ 7 _ _ _ hL;have e3:=cell_of_row w10 _ 8 _ _ _ hL;have e4:=cell_of_row w10 _ 9 _ _ _ hL;simp only[List.getElem?_toArray,List.getElem?_cons_succ,List.getElem?_cons_zero] at e0 e1 e2 e3 e4;clear hL ok26 ok23;go_wp2_with fail;refine(QcW _ 3 3 exL ⟨1,5,3,6,2⟩ _ Hs10.out rfl (by refine⟨⟨?_,?_⟩,⟨?_,?_⟩,⟨?_,?_⟩,⟨?_,?_⟩,⟨?_,?_⟩⟩<;>decide)).mono ?_;rintro e w11 ⟨v11,rfl,hown,hb1⟩;rw[A1.out];have Hs11:=Lh (Hs10.out.to hb1);have Hb11:=Lh (Hb10.out.trans (hb1.mono Hb10.out.size));clear hb1 hown;clear e0 e1 e2 e3 e4;go_wp2_with fail;refine(QcW _ 3 3 exL ⟨0,0,4,4,0⟩ _ Hs11.out rfl (by refine⟨⟨?_,?_⟩,⟨?_,?_⟩,⟨?_,?_⟩,⟨?_,?_⟩,⟨?_,?_⟩⟩<;>decide)).mono ?_;rintro e w12 ⟨v12,rfl,hown,hb1⟩;rw[A2.out];have Hs12:=Lh (Hs11.out.to hb1);have Hb12:=Lh (Hb11.out.trans (hb1.mono Hb11.out.size));clear hb1 hown;go_wp2_with fail;refine(QcW _ 3 3 exL ⟨0,0,4,5,16⟩ _ Hs12.out rfl (by refine⟨⟨?_,?_⟩,⟨?_,?_⟩,⟨?_,?_⟩,⟨?_,?_⟩,⟨?_,?_⟩⟩<;>decide)).mono ?_;rintro e w13 ⟨v13,rfl,hown,hb1⟩;rw[A3.out];have Hs13:=Lh (Hs12.out.to hb1);have Hb13:=Lh (Hb12.out.trans (hb1.mono Hb12.out.size));clear hb1 hown;go_wp2_with fail;refine(scheck_any _ 3 3 exL _ Hs13.out rfl).mono ?_;rintro e w14 ⟨rfl,hb1⟩;rw[C1.out];have Hs14:=Lh (Hs13.out.to hb1);have Hb14:=Lh (Hb13.out.trans (hb1.mono Hb13.out.size));clear hb1;go_wp2_with fail;go_ret;exact⟨rfl,(bR.alloc nL _).trans (Hb14.out.mono (by simp))⟩
end Go.Proofs.YtegaapiocihcpaaDoor
namespace Go.Proofs.YtegaapiocihcpaaDoor
open Go.RowKit
def small (s:Seal):Prop:=0≤s.e∧s.e<3∧0≤s.v∧s.v<3∧0≤s.f∧s.f<s.u∧s.u≤34∧0≤s.g∧s.g<4
theorem mkSeal_small (n:Int):small (Qba n):=by
 simp only[small,Qba];omega
theorem addSeal_inv (out:List Seal)(x:Int)(h:(∀s∈out,small s)∧out.Nodup):(∀s∈Qbc out x,small s)∧(Qbc out x).Nodup:=by
 unfold Qbc;split
 ·rename_i hlt;have hn:Qba (aro x 10000000)∉out:=fun hm=>by have:=(sidx_mem _ out).2 hm;omega
  refine⟨fun s hs=>?_,?_⟩
  ·rcases List.mem_append.1 hs with hs|hs
   ·exact h.1 s hs
   ·rw[List.mem_singleton.1 hs];exact mkSeal_small _
  ·rw[List.nodup_append];refine⟨h.2,by simp,fun a ha b hb=>?_⟩;rw[List.mem_singleton.1 hb];exact fun e=>hn (e▸ha)
 ·exact h
theorem foldl_inv (l:List Int)(out:List Seal)(h:(∀s∈out,small s)∧out.Nodup):(∀s∈l.foldl Qbc out,small s)∧(l.foldl Qbc out).Nodup:=by
 induction l generalizing out with
 |nil=>exact h
 |cons x r ih=>exact ih _ (addSeal_inv out x h)
theorem seals_small (l:List Int):∀s∈Qbx l,small s:=(foldl_inv _ _ ⟨by simp,by simp⟩).1
theorem seals_le (l:List Int):(Qbx l).length≤8:=by
 have e:Qbx l=Qaz (l.take 8) 8:=by unfold Qbx Qaz;rw[List.take_take,Nat.min_self]
 rw[e];exact sealsTo_le _ 8
def inSp (l:List Span)(x:Int):Bool:=l.any fun s=>decide (s.f≤x∧x<s.u)
theorem QbU (l:List Span)(x:Int)(k:Nat)(h:k<l.length):inSp (l.take (k+1)) x=(inSp (l.take k) x||decide (l[k].f≤x∧x<l[k].u)):=by
 unfold inSp;rw[qT h,List.any_append];simp
theorem inSp_of_take (l:List Span)(x:Int)(k:Nat)(h:inSp (l.take k) x=true):inSp l x=true:=by
 unfold inSp at *;rw[List.any_eq_true] at *;obtain⟨s,hs,h⟩:=h;exact⟨s,List.mem_of_mem_take hs,h⟩
theorem inSp_miss {l:List Span}{x:Int}{k:Nat}(h:k<l.length)(h0:inSp (l.take k) x=false)(hs:¬(l[k].f≤x∧x<l[k].u)):inSp (l.take (k+1)) x=false:=by
 rw[QbU l x k h,h0,decide_eq_false hs];rfl
theorem inSp_hit {l:List Span}{x:Int}{k:Nat}(h:k<l.length)(h1:l[k].f≤x)(h2:x<l[k].u):inSp l x=true:=
 inSp_of_take l x (k+1) (by rw[QbU l x k h,decide_eq_true ⟨h1,h2⟩,Bool.or_true])
end Go.Proofs.YtegaapiocihcpaaDoor
namespace Go.Proofs.YtegaapiocihcpaaDoor
open Go.RowKit
attribute [local go_sem ↓] Go.wp_at_zero Go.wp_at_succ
theorem within_any (A:Option Addr)(c n:Nat)(l:List Span)(x:Int)(w:World)(hl:Sl w (fun b=>b<w.heap.size) A c l)(hn:l.length=n):
 Calls Tryd.prog 11 #[.slice A n c,.int .i64 x] w fun r w'=>r=.returned (.bool (inSp l x))∧w=w':=by
 subst hn;have hlen:l.length≤9223372036854775807:=by have:=hl.1;have:=hl.2.1;unfold maxLen at this;omega
 have hle1:(l.length:Int)≤9223372036854775807:=by omega
 go_enter Tryd.func11,Tryd.ntmps11;go_wp2_with fail;go_loopw [5] (fun i wr=>∃k:Nat,k≤l.length∧i=.int .i64 k∧inSp (l.take k) x=false∧wr=w) (fun i _=>l.length-(intOf i).toNat);(case atStart=>exact⟨0,Nat.zero_le _,rfl,rfl,rfl⟩);case round=>
  obtain⟨k,hk,rfl,hi,rfl⟩:=hrel;have Hi:=Lh hi;clear hi;by_cases hlt:k<l.length
  ·obtain⟨b,o,rfl,hbS,hbl,hok,c0,c1⟩:=span_at hl hlt;have hkl:(k:Int)<(l.length:Int):=(by omega);have hk0:(0:Int)≤(k:Int):=(by omega);have hok1:=hok.1;have hok2:=hok.2;have HM:=Lh (fun h=>inSp_miss (l:=l) (x:=x) hlt Hi.out h);have HH:=Lh (inSp_hit (l:=l) (x:=x) hlt);generalize l[k].f=f at*;generalize l[k].u=u at*;clear hok hok1 hok2;go_wp2_with fail
   ·go_ret;exact⟨Qao (HH.out (by assumption) (by assumption)).symm,rfl⟩
   (all_goals go_roundw);all_goals first|(exact⟨k+1,by omega,by go_num,HM.out (by omega),by first|trivial|rfl⟩)|(simp[intOf];omega)
  ·have e:inSp l x=false:=by have:=Hi.out;rwa [List.take_of_length_le (by omega)] at this
   have E:=Lh e;clear e;go_wp2_with fail;go_ret;exact⟨Qao E.out.symm,rfl⟩
end Go.Proofs.YtegaapiocihcpaaDoor
namespace Go.Proofs.YtegaapiocihcpaaDoor
open Go.RowKit
section
variable {P:Program} {ops:Array Oper} {md:Region.Mode} {C:World→Prop} {m:Nat}
def wpAnyT (P:Program)(md:Region.Mode)(ops:Array Oper)(C:World→Prop)(m:Nat)(Q:Act→Prop):Nat→Array Bool→Act→Prop
 |0,listed,a=>Region.ready md ops listed=[m]∧listed.getD m false=false∧Region.ready md ops (listed.setIfInBounds m true)=[]∧Q a
 |fuel+1,listed,a=>Region.ready md ops listed≠[]∧∀i∈Region.ready md ops listed,i≠m∧qOp P ops C i (wpAnyT P md ops C m Q fuel (listed.setIfInBounds i true)) a
theorem wpAny_of_T {Q:Act→Prop}{Q':Exit→Act→World→Prop}(hQ:∀a w,C w→Q a→wpOp P ops Q' m (fun a w=>Q' .normal a w) a w):∀(fuel:Nat) (listed:Array Bool) (a:Act) (w:World),C w→ wpAnyT P md ops C m Q fuel listed a→wpAny P md ops Q' (fuel+1) listed a w
 |0,listed,a,w,hw,h=>by
  obtain⟨h1,_,h3,h4⟩:=h;refine⟨fun h0=>(by rw[h1] at h0;cases h0),fun i hi=>?_⟩;rw[h1,List.mem_singleton] at hi;subst hi;exact wpOp_mono (fun a w hn=>⟨h3,hn⟩) (hQ a w hw h4)
 |fuel+1,_,_,_,hw,h=>⟨fun h0=>absurd h0 h.1,fun i hi=>wpOp_of_qOp hw (fun a' w' hw'=>wpAny_of_T hQ fuel _ a' w' hw') (h.2 i hi).2⟩
theorem wpAnyT_first {Q:Act→Prop}{i:Nat}{oi:Oper}{v:Value}(hi:ops[i]? =some oi)(hsel:∀(j:Nat) (o:Oper) cs b,ops[j]? =some o→o.op≠.select cs b)(him:i≠m) (hcov:∀om,ops[m]? =some om→∃e∈om.after,Region.binds md e=true∧e.on=i):
 ∀(fuel:Nat) (listed:Array Bool) (a:Act),(∀j oj,ops[j]? =some oj→j≠i→listed.getD j true=false→(∀e∈oj.after,Region.binds md e=true→e.on≠i)→oi.apart ops oj=true)→ i∈Region.ready md ops listed→YieldsIn P ops C oi v a→ wpAnyT P md ops C m Q fuel (listed.setIfInBounds i true) (a.put oi.dst v)→wpAnyT P md ops C m Q (fuel+1) listed a:=by
 have hnotof:∀(listed:Array Bool) (j:Nat),i∈Region.ready md ops listed→j∈Region.ready md ops listed→∀oj,ops[j]? =some oj→∀e∈oj.after,Region.binds md e=true→e.on≠i:=fun listed j hr hj oj hoj e he hb heq=>by
  obtain⟨hjun,oj',hoj',hall⟩:=mem_ready.1 hj;rw[hoj] at hoj';cases hoj';have h1:=hall e he hb;have h0:=(mem_ready.1 hr).1;rw[heq] at h1;rcases Nat.lt_or_ge i listed.size with h'|h'
  ·simp[h'] at h0 h1;rw[h0] at h1;cases h1
  ·simp[Array.getElem?_eq_none h'] at h1
 have hnm:∀(listed:Array Bool) (j:Nat),i∈Region.ready md ops listed→j∈Region.ready md ops listed→j≠m:=fun listed j hr hj hjm=>by
  subst hjm;obtain⟨_,oj,hoj,_⟩:=mem_ready.1 hj;obtain⟨e,he,hb,heq⟩:=hcov oj hoj;exact hnotof listed j hr hj oj hoj e he hb heq
 intro fuel;induction fuel with
 |zero=>
  intro listed a _ hr hy H;refine⟨fun h=>(by rw[h] at hr;cases hr),fun j hj=>?_⟩;by_cases hji:j=i
  ·subst hji;exact⟨him,hy.qOp hi H⟩
  ·have h2:=ready_mono hj hji;rw[H.1,List.mem_singleton] at h2;exact absurd h2 (hnm listed j hr hj)
 |succ fuel ih=>
  intro listed a hfree hr hy H;refine⟨fun h=>(by rw[h] at hr;cases hr),fun j hj=>?_⟩;by_cases hji:j=i
  ·subst hji;exact⟨him,hy.qOp hi H⟩
  ·have h1:=(H.2 j (ready_mono hj hji)).2;obtain⟨hjun,oj,hoj,hall⟩:=mem_ready.1 hj;have hnot:∀e∈oj.after,Region.binds md e=true→e.on≠i:=hnotof listed j hr hj oj hoj;have h2:=qOp_put hoj (hfree j oj hoj hji hjun hnot) (fun cs b=>hsel i oi cs b hi) (fun cs b=>hsel j oj cs b hoj) hy h1;have hfree':∀k ok,ops[k]? =some ok→k≠i→(listed.setIfInBounds j true).getD k true=false→ (∀e∈ok.after,Region.binds md e=true→e.on≠i)→oi.apart ops ok=true:=fun k ok hk hki hun hno=>by
    refine hfree k ok hk hki ?_ hno;by_cases hjk:j=k
    ·subst hjk;exact hjun
    ·rw[Go.getD_set_ne true hjk] at hun;exact hun
   refine⟨hnm listed j hr hj,qOp_mono (fun a' h3=>ih (listed.setIfInBounds j true) a' hfree' (ready_mono hr (Ne.symm hji)) h3.1 ?_) h2⟩;rw[Array.setIfInBounds_comm _ _ hji];exact h3.2
def lexT (md:Region.Mode)(ops:Array Oper):Nat→Nat→Array Bool→Bool
 |0,k,listed=>Region.ready md ops listed==[k]&& !(listed.getD k false)&&(Region.ready md ops (listed.setIfInBounds k true)).isEmpty
 |n+1,k,listed=>(Region.ready md ops listed).contains k&&Region.free md ops listed k&&lexT md ops n (k+1) (listed.setIfInBounds k true)
def coversM (md:Region.Mode)(ops:Array Oper)(m:Nat):Bool:=
 (List.range m).all fun i=>((ops[m]?).map fun o=>o.after.any fun e=>Region.binds md e&&e.on==i).getD false
theorem coversM_spec (h:coversM md ops m=true)(i:Nat)(hi:i<m):∀om,ops[m]? =some om→∃e∈om.after,Region.binds md e=true∧e.on=i:=by
 intro om hom;have:=(List.all_eq_true.1 h) i (List.mem_range.2 hi);rw[hom] at this;simp only[Option.map_some,Option.getD_some,Array.any_eq_true'] at this;obtain⟨e,he,h⟩:=this;rw[Bool.and_eq_true,beq_iff_eq] at h;exact⟨e,he,h.1,h.2⟩
theorem wpAnyT_lex {Q:Act→Prop}(hs:Region.noSelect ops=true)(hc:coversM md ops m=true):∀(l:List Oper) (k:Nat) (listed:Array Bool) (a:Act),k+l.length=m→(∀j,j<l.length→l[j]? =ops[k+j]?)→ lexT md ops l.length k listed=true→wpQuiet P ops C Q l a→wpAnyT P md ops C m Q l.length listed a
 |[],k,listed,a,hk,_,hB,h=>by
  simp only[List.length_nil,Nat.add_zero] at hk;subst hk;simp only[List.length_nil,lexT,Bool.and_eq_true,beq_iff_eq,Bool.not_eq_true',List.isEmpty_iff] at hB;exact⟨hB.1.1,hB.1.2,hB.2,h⟩
 |o::l,k,listed,a,hk,hl,hB,h=>by
  have h0:ops[k]? =some o:=(by simpa using(hl 0 (by simp)).symm);simp only[qC,lexT,Bool.and_eq_true] at hB;obtain⟨⟨hr,hf⟩,hB'⟩:=hB;have hst:qOp P ops C k (wpQuiet P ops C Q l) a:=(by unfold qOp;simp only[h0];exact h);obtain⟨v,hy,hK⟩:=yieldsIn_of_qOp h0 hst;rw[qC] at hk
  exact wpAnyT_first h0 (Region.noSelect_spec hs) (by omega) (coversM_spec hc k (by omega)) l.length listed a (Region.free_spec h0 hf) (by simpa using hr) hy (wpAnyT_lex hs hc l (k+1) _ _ (by omega) (fun j hj=>by have:=hl (j+1) (by simpa using hj);simpa[Nat.add_assoc,Nat.add_comm 1 j] using this) hB' hK)
def lexTB (l:List Oper):Bool:=Region.noSelect l.toArray&&coversM .any l.toArray (l.length-1)&&lexT .any l.toArray (l.length-1) 0 (Array.replicate l.length false)
theorem wp_region_last {id:Nat}{Q:Exit→Act→World→Prop}{a:Act}{w:World}{l:List Oper}{o:Oper}(hm:P.follows .mixedOrders=true)(hB:lexTB (l++[o])=true)
 (h:∀(T:Type) (_:Nonempty T) (f:T→World),(∀d,Below w.heap.size w (f d))→(∀d w',Below (f d).heap.size (f d) w'→∃m,w'=f m)→ wpQuiet P (l++[o]).toArray (fun w'=>∃n,w'=f n) (fun a'=>∀w',(∃n,w'=f n)→Region.wanted o (yielded (l++[o]).toArray a'.tmps)=true∧o.wp P a' w' (fun a w=>Q .normal a w) Q) l a):(Code.region id (l++[o]).toArray true).wp P Q a w:=by
 simp only[lexTB,Bool.and_eq_true,qA,List.length_singleton,Nat.add_sub_cancel] at hB;have hsz:(l++[o]).toArray.size=l.length+1:=by simp
 refine wp_region_any hm ?_;rw[hsz]
 refine wpAny_of_T (C:=fun w'=>∃n,w'=(Subtype.val:{x:World // Below w.heap.size w x}→World) n) (m:=l.length) (Q:=fun a'=>∀w',(∃n,w'=(Subtype.val:{x:World // Below w.heap.size w x}→World) n)→Region.wanted o (yielded (l++[o]).toArray a'.tmps)=true∧o.wp P a' w' (fun a w=>Q .normal a w) Q) (fun a w' hw h=>?_) l.length _ a _ ⟨⟨_,(Below.refl _ w).drew⟩,rfl⟩ (wpAnyT_lex hB.1.1 hB.1.2 l 0 _ a (by simp) (fun j hj=>by simp[List.getElem?_append_left hj]) hB.2 (h _ ⟨⟨_,(Below.refl _ w).drew⟩⟩ Subtype.val (fun d=>d.2) (fun d w' hb=>⟨⟨w',d.2.trans (hb.mono d.2.size)⟩,rfl⟩)))
 unfold wpOp;have ho:(l++[o]).toArray[l.length]? =some o:=by simp
 obtain⟨h1,h2⟩:=h w' hw;simp only[ho,h1,if_true];exact .inl h2
theorem wp_region_tail {id:Nat}{Q:Exit→Act→World→Prop}{a:Act}{w:World}{l:List Oper}{o:Oper}(ho:l.dropLast++[o]=l)(hm:P.follows .mixedOrders=true)(hB:lexTB l=true)
 (h:∀(T:Type) (_:Nonempty T) (f:T→World),(∀d,Below w.heap.size w (f d))→(∀d w',Below (f d).heap.size (f d) w'→∃m,w'=f m)→ wpQuiet P l.toArray (fun w'=>∃n,w'=f n) (fun a'=>∀w',(∃n,w'=f n)→Region.wanted o (yielded l.toArray a'.tmps)=true∧o.wp P a' w' (fun a w=>Q .normal a w) Q) l.dropLast a):(Code.region id l.toArray true).wp P Q a w:=by
 rw[←ho] at hB h ⊢;rw[List.dropLast_concat] at h;exact wp_region_last hm hB h
end
end Go.Proofs.YtegaapiocihcpaaDoor
namespace Go.Proofs.YtegaapiocihcpaaDoor
open Go.Shelf
def QdG:Go.Shelf.Ren:=⟨fun|4=>62|n=>n,fun|22=>42|25=>49|3=>3|4=>4|9=>9|20=>20 |0=>0|n=>n,fun|n=>n⟩
theorem growL:Go.Proofs.Lays8.n4 Tryd.prog QdG:={
 mixed:=by kernel_rfl
 f4:=⟨Tryd.f62.name,by decide,Tryd.func62.trans (congrArg some (by kernel_rfl))⟩
 t0:=Tryd.underlying0
 a0:=Tryd.isAgg0
 z0:=Tryd.sizeOf0
 v0:=Tryd.zeroValue0
 t3:=Tryd.underlying3
 a3:=Tryd.isAgg3
 z3:=Tryd.sizeOf3
 v3:=Tryd.zeroValue3
 t4:=Tryd.underlying4
 a4:=Tryd.isAgg4
 z4:=Tryd.sizeOf4
 v4:=Tryd.zeroValue4
 t9:=Tryd.underlying9
 a9:=Tryd.isAgg9
 z9:=Tryd.sizeOf9
 v9:=Tryd.zeroValue9
 t20:=Tryd.underlying20
 a20:=Tryd.isAgg20
 z20:=Tryd.sizeOf20
 v20:=Tryd.zeroValue20
 t22:=Tryd.underlying42
 a22:=Tryd.isAgg42
 z22:=Tryd.sizeOf42
 v22:=Tryd.zeroValue42}
end Go.Proofs.YtegaapiocihcpaaDoor
namespace Go.Proofs.YtegaapiocihcpaaDoor
open Go.RowKit
def anyI (p:Int→Bool)(l:List Int):Bool:=l.any p
theorem anyI_take (p:Int→Bool)(l:List Int)(k:Nat)(h:k<l.length):anyI p (l.take (k+1))=(anyI p (l.take k)||p l[k]):=by
 unfold anyI;rw[qT h,List.any_append];simp
theorem anyI_hit (p:Int→Bool)(l:List Int)(k:Nat)(h:k<l.length)(hp:p l[k]=true):anyI p l=true:=List.any_eq_true.2 ⟨_,List.getElem_mem h,hp⟩
def IsIdxI (p:Int→Bool)(l:List Int)(w:World)(e:Ending)(w':World):Prop:=∃r:Int,e=.returned (.int .i64 r)∧decide (0≤r)=anyI p l∧w=w'
theorem indexFuncI_any (A:Option Addr)(c n:Nat)(l:List Int)(f:FuncId)(p:Int→Bool)(w:World)(hl:Sl w (fun b=>b<w.heap.size) A c l)(hn:l.length=n) (hcf:∀(w':World) (args:Array Value),(callFunc f args).run Tryd.prog w'=.ok (.enter f args) w') (hf:∀(x:Int) (w':World),I64 x→Calls Tryd.prog f #[.int .i64 x] w' fun e w''=>e=.returned (.bool (p x))∧w'=w''):
 Calls Tryd.prog 95 #[.slice A n c,.func (.func f) #[] #[]] w (IsIdxI p l w):=by
 subst hn;have hlen:l.length≤9223372036854775807:=by have:=hl.1;have:=hl.2.1;unfold maxLen at this;omega
 have Hf:=Lh hf;have Hl:=Lh hl;clear hf hl;go_enter Tryd.func95,Tryd.ntmps95;go_wp2_with fail;go_loopw [5,8] (fun _ i wr=>∃k:Nat,k≤l.length∧i=.int .i64 k∧Hid (anyI p (l.take k)=false)∧wr=w) (fun _ i _=>l.length-(intOf i).toNat);(case atStart=>exact⟨0,Nat.zero_le _,rfl,Lh (by simp[anyI]),rfl⟩);case round=>
  obtain⟨k,hk,rfl,hno,rfl⟩:=hrel;by_cases hlt:k<l.length
  ·obtain⟨b,o,rfl,_,hbl,hok,hc⟩:=QbK Hl.out hlt;have hkl:(k:Int)<(l.length:Int):=(by omega);have hk0:(0:Int)≤(k:Int):=(by omega);have HT:=Lh (anyI_take p l k hlt);have HH:=Lh (anyI_hit p l k hlt);have HOK:=Lh hok;generalize l[k]=q at*;clear hok;go_wp2_with fail;refine(Hf.out q _ HOK.out).mono ?_;rintro e w' ⟨rfl,rfl⟩;cases hp:p q
   ·have E:=Lh (show anyI p (l.take (k+1))=false by rw[HT.out,hno.out,hp];rfl);clear hp;go_wp2_with fail;go_roundw;(case rel=>exact⟨k+1,by omega,by go_num,E,by first|trivial|rfl⟩);case measure=>simp[intOf];omega
   ·have E:=Lh (HH.out hp);clear hp;go_wp2_with fail;go_ret;exact⟨k,rfl,by rw[E.out];exact decide_eq_true hk0,rfl⟩
  ·have E:=Lh (show anyI p l=false by have:=hno.out;rwa [List.take_of_length_le (by omega)] at this);go_wp2_with fail;go_ret;exact⟨-1,rfl,by rw[E.out];rfl,rfl⟩
theorem Qcv (A:Option Addr)(c n:Nat)(l:List Int)(f:FuncId)(p:Int→Bool)(w:World)(hl:Sl w (fun b=>b<w.heap.size) A c l)(hn:l.length=n) (hcf:∀(w':World) (args:Array Value),(callFunc f args).run Tryd.prog w'=.ok (.enter f args) w') (hf:∀(x:Int) (w':World),I64 x→Calls Tryd.prog f #[.int .i64 x] w' fun e w''=>e=.returned (.bool (p x))∧w'=w''):
 Calls Tryd.prog 92 #[.slice A n c,.func (.func f) #[] #[]] w fun e w'=>e=.returned (.bool (anyI p l))∧w=w':=by
 have Hi:=Lh (indexFuncI_any A c n l f p w hl hn hcf hf);clear hl hf hcf;go_enter Tryd.func92,Tryd.ntmps92;go_wp2_with fail;refine Hi.out.mono ?_;rintro e w' ⟨r,rfl,hr,rfl⟩;have Hr:=Lh hr;clear hr;go_wp2_with fail;go_ret;exact⟨Qao Hr.out,rfl⟩
def oddW (x:Int):Bool:=decide (x<1)||decide (480<x)
theorem oddW_any (x:Int)(w:World)(_hx:I64 x):Calls Tryd.prog 93 #[.int .i64 x] w fun e w'=>e=.returned (.bool (oddW x))∧w=w':=by
 unfold oddW;by_cases h1:x<1
 ·rw[decide_eq_true h1,Bool.true_or];go_enter Tryd.func93,Tryd.ntmps93;go_wp2_with fail;go_ret;exact⟨rfl,rfl⟩
 ·rw[decide_eq_false h1,Bool.false_or];by_cases h2:480<x
  ·rw[decide_eq_true h2];go_enter Tryd.func93,Tryd.ntmps93;go_wp2_with fail;go_ret;exact⟨rfl,rfl⟩
  ·rw[decide_eq_false h2];go_enter Tryd.func93,Tryd.ntmps93;go_wp2_with fail;go_ret;exact⟨rfl,rfl⟩
set_option maxRecDepth 100000 in
theorem reg_odd {ws:List Int}{m:Int}(h:Reg ws m):anyI oddW ws=false:=by
 unfold anyI;rw[List.any_eq_false];intro x hx;obtain⟨h1,h2⟩:=h.w x hx;unfold oddW;simp;omega
set_option maxRecDepth 100000 in
theorem pcheck_any (A:Option Addr)(c:Nat)(ws:List Int)(m:Int)(w:World)(hs:Sl w (fun b=>b<w.heap.size) A c ws)(hr:Reg ws m):
 Calls Tryd.prog 88 #[.slice A ws.length c,.int .i64 m] w fun e w'=>e=.returned (.int .i64 0)∧w=w':=by
 have HC:=Lh (Qcv A c ws.length ws 93 oddW w hs rfl (fun _ _=>rfl) (fun x w' hx=>oddW_any x w' hx));rw[reg_odd hr] at HC;have h1:¬(500:Int)<(ws.length:Int):=by have:=hr.n;omega
 have h2:¬m<500:=by have:=hr.lo;omega
 have h3:¬2000<m:=by have:=hr.hi;omega
 clear hs hr;go_enter Tryd.func88,Tryd.ntmps88;go_wp2_with fail;refine HC.out.mono ?_;rintro e w' ⟨rfl,rfl⟩;go_wp2_with fail;go_ret;exact⟨rfl,rfl⟩
theorem QcN (ws:List Int)(hw:∀x∈ws,1≤x∧x≤480):∀(s:Int),ws.foldl (fun s w=>s-(w+6)) s≤s∧s-486*(ws.length:Int)≤ws.foldl (fun s w=>s-(w+6)) s:=by
 induction ws with
 |nil=>intro s;simp
 |cons x ws ih=>
  intro s;have h1:=hw x (by simp);have h2:=ih (fun y hy=>hw y (by simp[hy])) (s-(x+6));simp only[List.foldl_cons,qC];omega
theorem slack_any (A:Option Addr)(c:Nat)(ws:List Int)(m:Int)(w:World)(hs:Sl w (fun b=>b<w.heap.size) A c ws)(hr:Reg ws m):
 Calls Tryd.prog 90 #[.slice A ws.length c,.int .i64 m] w fun e w'=>e=.returned (.int .i64 (QaP ws m))∧w=w':=by
 have HS:=Lh hs;have HR:=Lh hr;have h1:m≤2000:=hr.hi;have h2:500≤m:=hr.lo;have h3:ws.length≤500:=hr.n;clear hs hr;go_enter Tryd.func90,Tryd.ntmps90;go_wp2_with fail;go_loopw [5,12] (fun s i wr=>∃(k:Nat),k≤ws.length∧i=.int .i64 k∧s=.int .i64 (QaP (ws.take k) m)∧wr=w) (fun _ i _=>ws.length-(intOf i).toNat);(case atStart=>exact⟨0,Nat.zero_le _,rfl,rfl,rfl⟩);case round=>
  obtain⟨k,hk,rfl,rfl,rfl⟩:=hrel;by_cases hlt:k<ws.length
  ·obtain⟨b,o,rfl,_,hbl,hok,hc⟩:=QbK HS.out hlt;have hkl:(k:Int)<(ws.length:Int):=(by omega);have hk0:(0:Int)≤(k:Int):=(by omega);have hx:=HR.out.w ws[k] (List.getElem_mem hlt);have HN:Hid (QaP (ws.take (k+1)) m=QaP (ws.take k) m-(ws[k]+6)):=Lh (by unfold QaP;rw[qT hlt,List.foldl_append];rfl);have hb:=QcN (ws.take k) (fun x hx=>HR.out.w x (List.mem_of_mem_take hx)) (m+6);have hlen:(ws.take k).length=k:=(by rw[qK];omega);rw[hlen] at hb;have hb1:QaP (ws.take k) m≤2006:=(by unfold QaP;omega);have hb2: -300000≤QaP (ws.take k) m:=(by unfold QaP;omega);generalize QaP (ws.take k) m=s at*;generalize ws[k]=x at*;obtain⟨hx1,hx2⟩:=hx;clear hb hlen;go_wp2_with fail;go_roundw;(case rel=>exact⟨k+1,by omega,by go_num,by rw[HN.out],by first|trivial|rfl⟩);case measure=>(simp[intOf];omega)
  ·have HE:Hid (QaP (ws.take k) m=QaP ws m):=Lh (by rw[List.take_of_length_le (by omega)]);go_wp2_with fail;go_ret;exact⟨by rw[←HE.out];rfl,rfl⟩
def setL (cur:Array Value):Nat→List Value→Array Value
 |_,[]=>cur
 |o,v::vs=>setL (cur.setIfInBounds o v) (o+1) vs
theorem Qdj:∀(vs:List Value) (cur:Array Value) (o:Nat),(setL cur o vs).size=cur.size
 |[],_,_=>rfl
 |v::vs,cur,o=>by rw[setL,Qdj vs];simp
theorem setL_get:∀(vs:List Value) (cur:Array Value) (o k:Nat),o+vs.length≤cur.size→(setL cur o vs)[k]? =if o≤k∧k<o+vs.length then vs[k-o]? else cur[k]?
 |[],cur,o,k,_=>by rw[setL,if_neg (by simp only[List.length_nil];omega)]
 |v::vs,cur,o,k,h=>by
  rw[qC] at h;rw[setL,setL_get vs _ (o+1) k (by simp;omega),qC];by_cases h1:o=k
  ·subst h1;rw[if_neg (by omega),if_pos ⟨Nat.le_refl _,by omega⟩,Nat.sub_self,List.getElem?_cons_zero,Array.getElem?_setIfInBounds];simp;omega
  ·by_cases h2:o+1≤k∧k<o+1+vs.length
   ·rw[if_pos h2,if_pos (by omega)];obtain⟨d,hd⟩:∃d,k-o=d+1:=⟨k-o-1,by omega⟩;rw[hd,List.getElem?_cons_succ];congr 1;omega
   ·rw[if_neg h2,if_neg (by omega),Array.getElem?_setIfInBounds_ne h1]
theorem QbA (b:Nat):∀(vs:List Value) (o:Nat) (w:World) {cur:Array Value} {t:TypeId} {fr:Nat × Nat},w.heap[b]? =some (.cells cur t fr)→(w.setCells b o vs).heap[b]? =some (.cells (setL cur o vs) t fr)
 |[],_,_,_,_,_,h=>h
 |v::vs,o,w,cur,t,fr,h=>by
  refine QbA b vs (o+1) (w.setCell ⟨b,o,none⟩ v) ?_;simp only[World.setCell,Array.getElem?_modify,if_true,h,Option.map_some,Option.isSome_none,Bool.false_eq_true,if_false]
theorem Qa1 (b:Nat){i:Nat}(hi:i≠b):∀(vs:List Value) (o:Nat) (w:World),(w.setCells b o vs).heap[i]? =w.heap[i]?
 |[],_,_=>rfl
 |v::vs,o,w=>by
  refine(Qa1 b hi vs (o+1) (w.setCell ⟨b,o,none⟩ v)).trans ?_;simp only[World.setCell,Array.getElem?_modify];rw[if_neg (fun e=>hi e.symm)]
theorem Qcp (b:Nat):∀(vs:List Value) (o:Nat) (w:World),(w.setCells b o vs).heap.size=w.heap.size
 |[],_,_=>rfl
 |v::vs,o,w=>(Qcp b vs (o+1) (w.setCell ⟨b,o,none⟩ v)).trans (by simp[World.setCell])
theorem QbW {B b:Nat}(hb:B≤b):∀(vs:List Value) (o:Nat) {w0 w:World},Below B w0 w→Below B w0 (w.setCells b o vs)
 |[],_,_,_,h=>h
 |v::vs,o,_,_,h=>QbW hb vs (o+1) (h.setCell (p:=⟨b,o,none⟩) hb v)
section
variable {α:Type} [Rep α] {w:World} {base g c:Nat} {e:TypeId} {l:List α}
theorem Own.there (h:Own w base e (.slice (some ⟨g,0,none⟩) l.length c) l){i:Nat}(hi:i<l.length):w.there g (i*Rep.size α) (Rep.size α):=by
 obtain⟨xs,hx,ho,hr⟩:=h;rcases hx.2 with⟨h1,_⟩|⟨g',cap,cur,h1,hb,hg,hnc,hcm,hcs,htake⟩
 ·cases h1
 ·cases h1;intro j hj;have h2:(i+1)*Rep.size α≤l.length*Rep.size α:=Nat.mul_le_mul_right _ hi;have h3:l.length*Rep.size α≤c*Rep.size α:=Nat.mul_le_mul_right _ hnc;rw[Nat.add_mul,Nat.one_mul] at h2;refine⟨?_,by simp[World.frozen?,hg]⟩;rw[cell_of_row _ _ _ _ _ _ hg,Array.getElem?_eq_getElem (by omega)];rfl
theorem Own.setMid (h:Own w base e (.slice (some ⟨g,0,none⟩) l.length c) l){i:Nat}(hi:i<l.length){cs:List Value}{x:α}(hr:Rep.R w (fun b=>b≠g) cs x):
 Own (w.setCells g (i*Rep.size α) cs) base e (.slice (some ⟨g,0,none⟩) l.length c) (l.set i x):=by
 obtain⟨xs,hx,ho,hq⟩:=h;rcases hx.2 with⟨h1,_⟩|⟨g',cap,cur,h1,hb,hg,hnc,hcm,hcs,htake⟩
 ·cases h1
 ·cases h1;have hlen:=Rep.len hr;have h2:(i+1)*Rep.size α≤l.length*Rep.size α:=Nat.mul_le_mul_right _ hi;have h3:l.length*Rep.size α≤c*Rep.size α:=Nat.mul_le_mul_right _ hnc;rw[Nat.add_mul,Nat.one_mul] at h2;have hfit:i*Rep.size α+cs.length≤cur.size:=(by omega);have hkept:Kept (fun b=>b≠g) w (w.setCells g (i*Rep.size α) cs):=fun k hk _=>Qa1 g hk _ _ _
  have hl2:(setL cur (i*Rep.size α) cs).toList.length=cur.size:=(Array.length_toList).trans (Qdj _ _ _);have hxl:((setL cur (i*Rep.size α) cs).toList.take (l.length*Rep.size α)).length=l.length*Rep.size α:=by
   rw[qK,hl2];omega
  have hget:∀k,((setL cur (i*Rep.size α) cs).toList.take (l.length*Rep.size α))[k]? =if i*Rep.size α≤k∧k<i*Rep.size α+cs.length then cs[k-i*Rep.size α]? else xs[k]? :=by
   intro k;have e1:(setL cur (i*Rep.size α) cs).toList[k]? =(setL cur (i*Rep.size α) cs)[k]? :=(by simp);have e2:cur.toList[k]? =cur[k]? :=(by simp);rw[←htake,List.getElem?_take,List.getElem?_take,e1,e2,setL_get _ _ _ _ hfit];by_cases hk:k<l.length*Rep.size α
   ·rw[if_pos hk,if_pos hk]
   ·rw[if_neg hk,if_neg hk,if_neg (by omega)]
  refine⟨(setL cur (i*Rep.size α) cs).toList.take (l.length*Rep.size α),⟨by rw[List.length_set];exact hxl,.inr ⟨g,c,setL cur (i*Rep.size α) cs,by rw[List.length_set],hb,QbA g _ _ _ hg,by rw[List.length_set];exact hnc,hcm,by rw[Qdj];exact hcs,by rw[List.length_set]⟩⟩,?_,?_⟩
  ·intro u hu;obtain⟨k,hk⟩:=List.getElem?_of_mem hu;rw[hget] at hk;split at hk
   ·exact Rep.one hr u (List.mem_of_getElem? hk)
   ·exact ho u (List.mem_of_getElem? hk)
  ·intro j hj;have hj':j<l.length:=(by rw[List.length_set] at hj;exact hj);by_cases hij:i=j
   ·subst hij;have ht:((((setL cur (i*Rep.size α) cs).toList.take (l.length*Rep.size α)).drop (i*Rep.size α)).take (Rep.size α))=cs:=by
     apply List.ext_getElem?;intro k;rw[List.getElem?_take,List.getElem?_drop,hget];by_cases hk:k<Rep.size α
     ·rw[if_pos hk,if_pos (by omega)];congr 1;omega
     ·rw[if_neg hk,List.getElem?_eq_none (by omega)]
    rw[List.getElem_set_self,ht];exact Rep.mono (Rep.keep hr hkept) (fun b hb _=>by simpa[Value.ownBlock] using fun e=>hb e)
   ·have ht:((((setL cur (i*Rep.size α) cs).toList.take (l.length*Rep.size α)).drop (j*Rep.size α)).take (Rep.size α))=(xs.drop (j*Rep.size α)).take (Rep.size α):=by
     apply List.ext_getElem?;intro k;rw[List.getElem?_take,List.getElem?_drop,hget,List.getElem?_take,List.getElem?_drop];by_cases hk:k<Rep.size α
     ·rw[if_pos hk,if_pos hk,if_neg];rcases Nat.lt_or_gt_of_ne hij with h4|h4
      ·have h5:(i+1)*Rep.size α≤j*Rep.size α:=Nat.mul_le_mul_right _ h4;rw[Nat.add_mul,Nat.one_mul] at h5;omega
      ·have h5:(j+1)*Rep.size α≤i*Rep.size α:=Nat.mul_le_mul_right _ h4;rw[Nat.add_mul,Nat.one_mul] at h5;omega
     ·rw[if_neg hk,if_neg hk]
    rw[List.getElem_set_ne hij,ht];exact Rep.keep (hq j hj') (fun k hk _=>Qa1 g (fun e=>hk (by rw[e];rfl)) _ _ _)
end
theorem QdD {P:Program}{o:Oper}{a:Act}{w:World}{K:Act→World→Prop}{Q:Exit→Act→World→Prop}(t:TypeId)(x y:Operand)(ho:o.op=.makeSlice t x y)(e:TypeId)(z:Value)(size bytes:Nat) (ht:P.underlying t=some (.slice e)) (hinfo:(P.info? e).map (fun i=>(i.zero,i.size,i.bytes))=some (some z,size,bytes)) (n:Nat) (hx:a.eval x=.int .i64 (n:Int)) (hy:a.eval y=.int .i64 (n:Int)) (hb:n*bytes≤140737488355328) (h63:n≤9223372036854775807) (h:K (a.put o.dst (.slice (some ⟨w.heap.size,0,none⟩) n n)) (w.alloc (.cells (madeCells z.cells (n*size)) e))):o.wp P a w K Q:=by
 obtain⟨i,hi,hz,hsz,hbz⟩:=info_parts hinfo;have hb':(i.bytes:Int)*(n:Int)≤281474976710656:=by
  rw[hbz];have h:((bytes*n:Nat):Int)≤281474976710656:=(by rw[Nat.mul_comm];omega);rwa [Int.natCast_mul] at h
 have hr:=run_make (P:=P) w t e i z ht hi hz .i64 .i64 n n (by omega) (Int.le_refl _) hb' (by omega);simp only[Int.toNat_natCast,hsz] at hr;unfold Oper.wp execOp;simp only[ho,hx,hy,Sem.run_bind,hr,Result.andThen_ok,Sem.run_pure];exact h
theorem Qby {P:Program}{ops:Array Oper}{rest:List Oper}{o:Oper}{a:Act}{w:World}{Q:Exit→Act→World→Prop}(hgd:o.guard=none)(t:TypeId)(x y:Operand)(ho:o.op=.makeSlice t x y)(e:TypeId)(z:Value)(size bytes:Nat) (ht:P.underlying t=some (.slice e)) (hinfo:(P.info? e).map (fun i=>(i.zero,i.size,i.bytes))=some (some z,size,bytes)) (n:Nat) (hx:a.eval x=.int .i64 (n:Int)) (hy:a.eval y=.int .i64 (n:Int)) (hb:n*bytes≤140737488355328) (h63:n≤9223372036854775807) (h:wpList P ops Q rest (a.put o.dst (.slice (some ⟨w.heap.size,0,none⟩) n n)) (w.alloc (.cells (madeCells z.cells (n*size)) e))):wpList P ops Q (o::rest) a w:=
 wpList_plain hgd fun _ hK=>QdD t x y ho e z size bytes ht hinfo n hx hy hb h63 (hK _ _ h)
theorem made_ints (n:Nat):madeCells (Value.int .i64 0).cells (n*1)=((List.replicate n (0:Int)).map (Value.int .i64)).toArray:=by
 apply Array.ext';unfold madeCells;rw[Nat.mul_one];apply List.ext_getElem?;intro i;simp only[Value.cells,List.getElem?_map,List.getElem?_replicate,Array.toList_map,Array.toList_range];by_cases h:i<n
 ·rw[List.getElem?_range h,if_pos h];simp[Nat.mod_one]
 ·rw[List.getElem?_eq_none (by simpa using h),if_neg h];rfl
theorem irow_made (w:World)(n:Nat)(t:TypeId):IRow (w.alloc (.cells (madeCells (Value.int .i64 0).cells (n*1)) t)) w.heap.size t (List.replicate n 0):=by
 rw[made_ints];exact heap_alloc_new w _
theorem QaY:(Tryd.prog.info? 3).map (fun i=>(i.zero,i.size,i.bytes))=some (some (.int .i64 0),1,8):=by kernel_rfl
def rowC (ws:List Int)(m:Int)(k i:Nat)(cur:Int):List Int:=List.replicate i 0++cur::(bestL ws m k).map (·.1)
def rowE (ws:List Int)(m:Int)(k i:Nat)(cur:Int):List Int:=List.replicate i 0++cur::(bestL ws m k).map (fun x=>(x.2:Int))
theorem rowC_start (ws:List Int)(m:Int):List.replicate (ws.length+1) (0:Int)=List.replicate ws.length 0++(bestL ws m 0).map (·.1):=by rw[List.replicate_succ'];rfl
theorem rowE_start (ws:List Int)(m:Int):List.replicate (ws.length+1) (0:Int)=List.replicate ws.length 0++(bestL ws m 0).map (fun x=>(x.2:Int)):=by rw[List.replicate_succ'];rfl
theorem row_open (i:Nat)(l:List Int):List.replicate (i+1) (0:Int)++l=List.replicate i 0++0::l:=by rw[List.replicate_succ',List.append_assoc];rfl
theorem row_set (i:Nat)(l:List Int)(x y:Int):(List.replicate i 0++x::l).set i y=List.replicate i 0++y::l:=by
 rw[List.set_append_right _ _ (by simp)];simp
theorem row_at (i:Nat)(l:List Int)(x:Int):(List.replicate i 0++x::l)[i]? =some x:=by
 rw[List.getElem?_append_right (by simp)];simp
theorem best_next (ws:List Int)(m:Int){i k:Nat}(h:i+1+k=ws.length):bestL ws m (k+1)=scanE ws.length (ws.drop i) (bestL ws m k) (m+6) (i+1) true (0,0)::bestL ws m k:=by
 have e:ws.length-(k+1)=i:=by omega
 rw[bestL,e]
theorem rowC_next {ws:List Int}{m:Int}{i k:Nat}{cur:Int × Nat}(h:i+1+k=ws.length)(hc:scanE ws.length (ws.drop i) (bestL ws m k) (m+6) (i+1) true (0,0)=cur):rowC ws m k i cur.1=List.replicate i 0++(bestL ws m (k+1)).map (·.1):=by
 rw[best_next ws m h,hc];rfl
theorem rowE_next {ws:List Int}{m:Int}{i k:Nat}{cur:Int × Nat}(h:i+1+k=ws.length)(hc:scanE ws.length (ws.drop i) (bestL ws m k) (m+6) (i+1) true (0,0)=cur):rowE ws m k i (cur.2:Int)=List.replicate i 0++(bestL ws m (k+1)).map (fun x=>(x.2:Int)):=by
 rw[best_next ws m h,hc];rfl
theorem head_drop (l:List (Int × Nat))(d:Nat)(x:Int × Nat)(h:l[d]? =some x):(l.drop d).headD (0,0)=x:=by
 rw[List.headD_eq_head?_getD,List.head?_drop,h];rfl
theorem ends_at (ws:List Int)(m:Int)(a:Nat)(h:a<ws.length):((bestL ws m ws.length).map (fun x=>(x.2:Int)))[a]? =some ((bestAt ws m a).2:Int):=by
 unfold bestAt;rw[List.getElem?_map,List.getD_eq_getElem?_getD,qG (by rw[QaZ];omega)];rfl
theorem chain_at (ws:List Int)(m:Int)(a f:Nat)(h:a<ws.length):chainE ((bestL ws m ws.length).map (·.2)) ws.length (f+1) a=(bestAt ws m a).2::chainE ((bestL ws m ws.length).map (·.2)) ws.length f (bestAt ws m a).2:=by
 have e:((bestL ws m ws.length).map (·.2)).getD a 0=(bestAt ws m a).2:=by
  unfold bestAt;rw[List.getD_eq_getElem?_getD,List.getD_eq_getElem?_getD,List.getElem?_map,qG (by rw[QaZ];omega)];rfl
 rw[chainE,if_pos h,e]
theorem row_behind (i d:Nat)(l:List Int)(x:Int):(List.replicate i 0++x::l)[i+d+1]? =l[d]? :=by
 rw[List.getElem?_append_right (by simp;omega)];have:i+d+1-(List.replicate i (0:Int)).length=d+1:=by simp;omega
 rw[this,List.getElem?_cons_succ]
theorem Qa9 (w:World)(n:Nat)(t:TypeId):IRow (w.alloc (.cells (madeCells #[Value.int .i64 0] n) t)) w.heap.size t (List.replicate n 0):=by
 have:=irow_made w n t;rwa [Nat.mul_one] at this
set_option maxRecDepth 100000 in
theorem ends_any (A:Option Addr)(c:Nat)(ws:List Int)(m:Int)(w:World)(hs:Sl w (fun b=>b<w.heap.size) A c ws)(hr:Reg ws m):
 Calls Tryd.prog 80 #[.slice A ws.length c,.int .i64 m] w fun e w'=>∃v,e=.returned (.tuple #[v,.int .i64 0])∧Own w' w.heap.size 3 v ((endsP ws m).map (fun(n:Nat)=>(n:Int)))∧Below w.heap.size w w':=by
 have HC:=Lh (pcheck_any A c ws m w hs hr);have HS:=Lh hs;have HR:=Lh hr;have h1:m≤2000:=hr.hi;have h2:500≤m:=hr.lo;have h3:ws.length≤500:=hr.n;have hn1:Value.int .i64 (IntKind.i64.wrap ((ws.length:Int)+1))=Value.int .i64 ((ws.length+1:Nat):Int):=by rw[IntWalk.i64_in _ (by omega),Int.natCast_add];rfl
 have HN1:=Lh hn1;clear hs hr hn1;go_enter Tryd.func80,Tryd.ntmps80;go_wp2_with fail;refine HC.out.mono ?_;rintro e w' ⟨rfl,rfl⟩;go_upto_region 5 with(fail);go_cut [8,9] from 23 to 29 (fun a8 a9 wx=>∃(Cb Eb:Nat),a8=.slice (some ⟨Cb,0,none⟩) (ws.length+1) (ws.length+1)∧a9=.slice (some ⟨Eb,0,none⟩) (ws.length+1) (ws.length+1)∧Hid (Cb≠Eb∧w.heap.size≤Cb∧w.heap.size≤Eb)∧Hid (IRow wx Cb 3 (List.replicate (ws.length+1) 0))∧Hid (IRow wx Eb 3 (List.replicate (ws.length+1) 0))∧Hid (Below w.heap.size w wx));case first=>
  refine Qay (fun _=>True) (fun _=>true) (by kernel_rfl) ?_;have HB0:Hid (Below w.heap.size w w.drew):=Lh bR.drew;generalize w.drew=wq at*;refine Qak (i:=0) (oi:=⟨some 23,Op.move (.tmp 7),3,_,_,_⟩) (v:=?_) rfl (by kernel_rfl) (by kernel_rfl) (by kernel_rfl) (by kernel_rfl) (by kernel_rfl) (fun _ _ _ h=>h) (by rfl) ?zq0 trivial ?zq1;(case zq0=>intro _ s;clear s;go_simp;(try with_reducible rfl));(all_goals try go_frame);refine Qak (i:=1) (oi:=⟨some 24,Op.binOp BinOp.add 3 (.tmp 23) (Operand.const (Value.int IntKind.i64 1)) 3,3,_,_,_⟩) (v:=?_) rfl (by kernel_rfl) (by kernel_rfl) (by kernel_rfl) (by kernel_rfl) (by kernel_rfl) (fun _ _ _ h=>h) (by rfl) ?zq2 trivial ?zq3;(case zq2=>intro _ s;clear s;go_simp;(try with_reducible rfl));(all_goals try go_frame);refine Qak (i:=3) (oi:=⟨some 26,Op.move (.tmp 7),3,_,_,_⟩) (v:=?_) rfl (by kernel_rfl) (by kernel_rfl) (by kernel_rfl) (by kernel_rfl) (by kernel_rfl) (fun _ _ _ h=>h) (by rfl) ?zq4 trivial ?zq5;(case zq4=>intro _ s;clear s;go_simp;(try with_reducible rfl));(all_goals try go_frame);refine Qak (i:=4) (oi:=⟨some 27,Op.binOp BinOp.add 3 (.tmp 26) (Operand.const (Value.int IntKind.i64 1)) 3,3,_,_,_⟩) (v:=?_) rfl (by kernel_rfl) (by kernel_rfl) (by kernel_rfl) (by kernel_rfl) (by kernel_rfl) (fun _ _ _ h=>h) (by rfl) ?zq6 trivial ?zq7;(case zq6=>intro _ s;clear s;go_simp;(try with_reducible rfl));(all_goals try go_frame);have hn1:=HN1.out;refine wpAnyD_two (i:=2) (j:=5) (oi:=⟨some 25,Op.makeSlice 22 (.tmp 24) (.tmp 24),22,_,_,_⟩) (oj:=⟨some 28,Op.makeSlice 22 (.tmp 27) (.tmp 27),22,_,_,_⟩) (by kernel_rfl) rfl rfl (by rfl) (by rfl) (fun K hK=>?_) (fun K hK=>?_)
  ·refine QdD 22 (.tmp 24) (.tmp 24) rfl 3 (.int .i64 0) 1 8 Tryd.underlying22 QaY (ws.length+1) hn1 hn1 (by omega) (by omega) ?_;refine hK _ _ (fun _=>trivial) ?_;clear hK K;(try go_frame);refine Qak (i:=6) (oi:=⟨some 8,Op.assign (.tmp 25),22,_,_,_⟩) (v:=?_) rfl (by kernel_rfl) (by kernel_rfl) (by kernel_rfl) (by kernel_rfl) (by kernel_rfl) (fun _ _ _ h=>h) (by rfl) ?zq8 trivial ?zq9;(case zq8=>intro _ s;clear s;go_simp;(try with_reducible rfl));(all_goals try go_frame);refine tD 5 ⟨some 28,Op.makeSlice 22 (.tmp 27) (.tmp 27),22,_,_,_⟩ rfl fun K hK=>?_
   refine QdD 22 (.tmp 27) (.tmp 27) rfl 3 (.int .i64 0) 1 8 Tryd.underlying22 QaY (ws.length+1) hn1 hn1 (by omega) (by omega) ?_;refine hK _ _ (fun _=>trivial) ?_;clear hK K;(try go_frame);refine tD 7 ⟨some 9,Op.assign (.tmp 28),22,_,_,_⟩ rfl fun K hK=>?_
   go_simp;refine hK _ _ (fun _=>trivial) ?_;clear hK K;(try go_frame);have hr0:=Qa9 wq (ws.length+1) 3;have hr1:=Qa9 (wq.alloc (.cells (madeCells #[Value.int .i64 0] (ws.length+1)) 3)) (ws.length+1) 3;rw[World.size_alloc] at hr1;have hb1:Below wq.heap.size wq (wq.alloc (.cells (madeCells #[Value.int .i64 0] (ws.length+1)) 3)):=bR.alloc nL _;have hb2:Below (wq.alloc (.cells (madeCells #[Value.int .i64 0] (ws.length+1)) 3)).heap.size (wq.alloc (.cells (madeCells #[Value.int .i64 0] (ws.length+1)) 3)) _:=bR.alloc nL (.cells (madeCells #[Value.int .i64 0] (ws.length+1)) 3);refine Qam (by kernel_rfl) ?_ _;unfold Exit.then;go_wp2_with fail;go_meet;exact⟨wq.heap.size,wq.heap.size+1,rfl,rfl,Lh ⟨by omega,(by have:=HB0.out.size;omega),(by have:=HB0.out.size;omega)⟩,Lh (hr0.to hb2),Lh hr1,Lh (HB0.out.trans ((hb1.trans (hb2.mono (by simp))).mono HB0.out.size))⟩
  ·refine QdD 22 (.tmp 27) (.tmp 27) rfl 3 (.int .i64 0) 1 8 Tryd.underlying22 QaY (ws.length+1) hn1 hn1 (by omega) (by omega) ?_;refine hK _ _ (fun _=>trivial) ?_;clear hK K;(try go_frame);refine tD 2 ⟨some 25,Op.makeSlice 22 (.tmp 24) (.tmp 24),22,_,_,_⟩ rfl fun K hK=>?_
   refine QdD 22 (.tmp 24) (.tmp 24) rfl 3 (.int .i64 0) 1 8 Tryd.underlying22 QaY (ws.length+1) hn1 hn1 (by omega) (by omega) ?_;refine hK _ _ (fun _=>trivial) ?_;clear hK K;(try go_frame);refine tD 6 ⟨some 8,Op.assign (.tmp 25),22,_,_,_⟩ rfl fun K hK=>?_
   go_simp;refine hK _ _ (fun _=>trivial) ?_;clear hK K;(try go_frame);refine tD 7 ⟨some 9,Op.assign (.tmp 28),22,_,_,_⟩ rfl fun K hK=>?_
   go_simp;refine hK _ _ (fun _=>trivial) ?_;clear hK K;(try go_frame);have hr0:=Qa9 wq (ws.length+1) 3;have hr1:=Qa9 (wq.alloc (.cells (madeCells #[Value.int .i64 0] (ws.length+1)) 3)) (ws.length+1) 3;rw[World.size_alloc] at hr1;have hb1:Below wq.heap.size wq (wq.alloc (.cells (madeCells #[Value.int .i64 0] (ws.length+1)) 3)):=bR.alloc nL _;have hb2:Below (wq.alloc (.cells (madeCells #[Value.int .i64 0] (ws.length+1)) 3)).heap.size (wq.alloc (.cells (madeCells #[Value.int .i64 0] (ws.length+1)) 3)) _:=bR.alloc nL (.cells (madeCells #[Value.int .i64 0] (ws.length+1)) 3);refine Qam (by kernel_rfl) ?_ _;unfold Exit.then;go_wp2_with fail;go_meet;exact⟨wq.heap.size+1,wq.heap.size,rfl,rfl,Lh ⟨by omega,(by have:=HB0.out.size;omega),(by have:=HB0.out.size;omega)⟩,Lh hr1,Lh (hr0.to hb2),Lh (HB0.out.trans ((hb1.trans (hb2.mono (by simp))).mono HB0.out.size))⟩
 case rest=>
  obtain⟨Cb,Eb,rfl,rfl,HNE,HCR,HER,HBc⟩:=hcut;clear HC HN1;go_wp2_with fail;go_loopw [10] (fun z wr=>∃(k:Nat) (i1:Nat),z=.int .i64 ((i1:Int)-1)∧Hid (i1+k=ws.length)∧Hid (IRow wr Cb 3 (List.replicate i1 0++(bestL ws m k).map (·.1)))∧Hid (IRow wr Eb 3 (List.replicate i1 0++(bestL ws m k).map (fun x=>(x.2:Int))))∧Hid (Below w.heap.size w wr)) (fun z _=>(intOf z+1).toNat);(case atStart=>exact⟨0,ws.length,rfl,Lh (by omega),Lh (by rw[←rowC_start];exact HCR.out),Lh (by rw[←rowE_start];exact HER.out),HBc⟩);case round=>
   clear HCR HER HBc;obtain⟨k,i1,rfl,HIK,HCR,HER,HBw⟩:=hrel;by_cases hz:i1=0
   ·subst hz;have HKN:Hid (k=ws.length):=Lh (by have:=HIK.out;omega);have HE0:Hid (IRow wr Eb 3 ((bestL ws m ws.length).map (fun x=>(x.2:Int)))):=Lh (by have:=HER.out;rw[HKN.out] at this;exact this);clear HER HCR HKN HIK;rw[show((0:Nat):Int)-1= -1 from rfl];go_wp2_with fail;obtain⟨wo,rfl⟩:∃wo:World,wo=wr:=⟨_,rfl⟩;go_loopw [13,14] (fun v vi wq=>∃(f a:Nat) (dn:List Nat),vi=.int .i64 (a:Int)∧a≤ws.length∧Hid (ws.length-a≤f)∧Hid (endsP ws m=dn++chainE ((bestL ws m ws.length).map (·.2)) ws.length f a)∧Hid (dn.length≤a)∧Hid (Own wq wo.heap.size 3 v (dn.map (fun(n:Nat)=>(n:Int))))∧Hid (Below wo.heap.size wo wq)) (fun _ vi _=>ws.length-(intOf vi).toNat);(case atStart=>exact⟨ws.length,0,[],rfl,Nat.zero_le _,Lh (by omega),Lh rfl,Lh (Nat.zero_le _),Lh (Own.nil _ _ _),Lh bR⟩);case round=>
     obtain⟨f,a,dn,rfl,han,HF,HEN,HDL,HO,HBq⟩:=hrel;by_cases hlt:a<ws.length
     ·have hai:(a:Int)<(ws.length:Int):=by omega
      have ha0:(0:Int)≤(a:Int):=(by omega);obtain⟨f',rfl⟩:∃f',f=f'+1:=⟨f-1,by have:=HF.out;omega⟩;have HEA:=Lh (bestAt_end HR.out a hlt);have HNX:Hid (endsP ws m=(dn++[(bestAt ws m a).2])++chainE ((bestL ws m ws.length).map (·.2)) ws.length f' (bestAt ws m a).2):=Lh (by rw[HEN.out,chain_at ws m a f' hlt];simp);have HE1:=Lh (HE0.out.to HBq.out);have c0:wr.cell? ⟨Eb,a,none⟩=some (.int .i64 ((bestAt ws m a).2:Int)):=HE1.out.cell a (ends_at ws m a hlt);generalize (bestAt ws m a).2=en at*;have hba:Below wr.heap.size wr (wr.alloc (.cells #[.int .i64 (en:Int)] 3)):=bR.alloc nL _;have HO2:=Lh (HO.out.below hba);have HBA:=Lh hba;have HI:Hid (I64 (en:Int)):=Lh (by have:=HEA.out;unfold I64;omega);have HLD:Hid (dn.length≤500):=Lh (by have:=HDL.out;omega)
      have HCE:Hid (∀W,Below wo.heap.size wo W→W.cell? ⟨Eb,a,none⟩=some (.int .i64 (en:Int))):=Lh (fun W hW=>by
       have h1:=c0
       have h2:=HE0.out.lt
       exact((hW.cell (p:=⟨Eb,a,none⟩) h2).trans ((HBq.out.cell (p:=⟨Eb,a,none⟩) h2).symm)).trans h1)
      clear hba
      go_upto_region 21 with(first|(at_builtin;refine Qan (α:=Int) _ rfl (.tmp 105) (.tmp 110) 22 rfl wo.heap.size 3 (.int .i64 0) 8 Tryd.underlying22 QaY rfl (by decide) u13 (dn.map (fun(n:Nat)=>(n:Int))) rfl HO2.out wr.heap.size #[.int .i64 (en:Int)] (en:Int) (0,0) 3 rfl (heap_alloc_new wr _) ⟨rfl,HI.out⟩ (by have:=HLD.out;rw[qM];omega) (by have:=HLD.out;rw[qM];omega) (by have:=HBq.out.size;simp;omega) _ rfl ?_;intro g5 p5 w5 hown5 hg5 hat5 hlt5)|fail)
      have hb5:Below wo.heap.size wo w5:=Qbk HBq.out HO.out HBq.out.size hg5;have HO5:=Lh hown5;have HB5:=Lh hb5;have c5:=HCE.out w5 hb5;clear hb5 hown5 hg5 hat5 hlt5 c0 HCE;go_wp2_with fail;go_roundw;(case rel=>exact⟨f',en,dn++[en],rfl,by have:=HEA.out;omega,Lh (by have:=HEA.out;have:=HF.out;omega),HNX,Lh (by have:=HEA.out;have:=HDL.out;simp;omega),Lh (by have:=HO5.out;rw[qM] at this;rw[List.map_append];exact this),HB5⟩);case measure=>(have hx1:=HEA.out;simp[intOf];omega)
     ·have hai:¬(a:Int)<(ws.length:Int):=by omega
      have HFN:Hid (endsP ws m=dn):=Lh (by
       have e:chainE ((bestL ws m ws.length).map (·.2)) ws.length f a=[]:=by
        cases f with
        |zero=>rfl
        |succ f=>rw[chainE,if_neg hlt]
       rw[HEN.out,e,List.append_nil])
      have HBz:=Lh (HBw.out.trans (HBq.out.mono HBw.out.size));have HOz:=Lh (HO.out.re HBw.out.size);go_wp2_with fail;go_ret2;exact⟨_,rfl,by rw[HFN.out];exact HOz.out,HBz.out⟩
   ·obtain⟨i,rfl⟩:∃i,i1=i+1:=⟨i1-1,by omega⟩;have hi0:(0:Int)≤(i:Int):=(by omega);have hi5:(i:Int)<500:=(by have:=HIK.out;omega);have hi6:(i:Int)<(ws.length:Int):=(by have:=HIK.out;omega);have hii:((i+1:Nat):Int)-1=(i:Int):=(by omega);rw[hii];clear hii hz;have HIN:Hid (i+1+k=ws.length):=HIK;have HC0:Hid (IRow wr Cb 3 (rowC ws m k i 0)):=Lh (by unfold rowC;rw[←row_open];exact HCR.out);have HE0:Hid (IRow wr Eb 3 (rowE ws m k i 0)):=Lh (by unfold rowE;rw[←row_open];exact HER.out);clear HIK HCR HER;obtain⟨wo,rfl⟩:∃wo:World,wo=wr:=⟨_,rfl⟩;go_wp2_with fail;go_step3;go_wp2_with fail;go_step3;go_wp2_with fail;go_loopw [11,12] (fun vs vj ww=>∃(d p:Nat) (s:Int) (cur:Int × Nat),vs=.int .i64 s∧vj=.int .i64 ((p:Int)+1)∧Hid (p=i+d∧p<ws.length)∧s≤2006∧0≤s∧Hid (scanE ws.length (ws.drop i) (bestL ws m k) (m+6) (i+1) true (0,0)=scanE ws.length (ws.drop p) ((bestL ws m k).drop d) s (p+1) (decide (d=0)) cur)∧Hid (0≤cur.1∧cur.1≤4100000*((k:Int)+1))∧Hid (IRow ww Cb 3 (rowC ws m k i cur.1))∧Hid (IRow ww Eb 3 (rowE ws m k i (cur.2:Int)))∧Hid (Below w.heap.size w ww)) (fun _ vj _=>(ws.length+1-(intOf vj).toNat));(case atStart=>exact⟨0,i,m+6,(0,0),rfl,rfl,Lh (by have:=HIN.out;omega),by omega,by omega,Lh rfl,Lh (by simp;omega),HC0,HE0,HBw⟩);case round=>
     clear HC0 HE0 HBw;obtain⟨d,p,s,cur,rfl,rfl,HP,hs1,hs2,HSC,HCB,HCR,HER,HBw⟩:=hrel;have hpl:p<ws.length:=HP.out.2;have hp0:(0:Int)≤(p:Int):=(by omega);have hpn:(p:Int)<(ws.length:Int):=(by omega);obtain⟨b,o,rfl,_,hbl,hok,hc⟩:=QbK (HS.out.to HBw.out) hpl;have hx:=HR.out.w ws[p] (List.getElem_mem hpl);have HDR:Hid (ws.drop p=ws[p]::ws.drop (p+1)):=Lh (List.drop_eq_getElem_cons hpl);obtain⟨x,hxe⟩:∃x,ws[p]=x:=⟨_,rfl⟩;rw[hxe] at hc hx HDR;obtain⟨hx1,hx2⟩:=hx;clear hxe hok hbl;obtain⟨s2,hs2e⟩:∃s2,s-(x+6)=s2:=⟨_,rfl⟩;have hsa:s2≤2006:=(by omega);have hsb: -500≤s2:=(by omega);have HSE:=Lh hs2e;go_upto_block 4 with(fail);(try rw[hs2e]);clear hs2e hc;by_cases hneg:s2<0
     ·have HRES:Hid (scanE ws.length (ws.drop i) (bestL ws m k) (m+6) (i+1) true (0,0)=cur):=Lh (by rw[HSC.out,HDR.out];exact scanE_neg _ _ _ _ _ _ _ _ (by rw[HSE.out];exact hneg));go_wp2_with fail;apply_assumption;go_wp2_with fail;go_roundw;(case rel=>exact⟨k+1,i,by go_num,Lh (by have:=HIN.out;omega),Lh (by rw[←rowC_next HIN.out HRES.out];exact HCR.out),Lh (by rw[←rowE_next HIN.out HRES.out];exact HER.out),HBw⟩);case measure=>(first|(simp[intOf];done)|(simp[intOf];omega))
     ·have hnn:0≤s2:=by omega
      have HNN:Hid (¬s-(x+6)<0):=Lh (by rw[HSE.out];exact hneg);have c0:wr.cell? ⟨Cb,i,none⟩=some (.int .i64 cur.1):=HCR.out.cell i (row_at _ _ _);have f0:=HCR.out.fz i;by_cases hlast:p+1=ws.length
      ·have HRES:Hid (scanE ws.length (ws.drop i) (bestL ws m k) (m+6) (i+1) true (0,0)=(0,ws.length)):=Lh (by rw[HSC.out,HDR.out,hlast];exact scanE_last _ _ _ _ _ _ _ HNN.out);have hl1:(p:Int)+1=(ws.length:Int):=(by omega);have HE1:Hid (IRow (wr.setCell ⟨Cb,i,none⟩ (.int .i64 0)) Eb 3 (rowE ws m k i (cur.2:Int))):=Lh (HER.out.other (Ne.symm HNE.out.1) i (.int .i64 0));have c1:=HE1.out.cell i (row_at _ _ _);have f1:=HE1.out.fz i;have HC2:=Lh ((HCR.out.set i 0).other HNE.out.1 i (.int .i64 (ws.length:Int)));have HE2:=Lh (HE1.out.set i (ws.length:Int));have HB2:Hid (Below w.heap.size w ((wr.setCell ⟨Cb,i,none⟩ (.int .i64 0)).setCell ⟨Eb,i,none⟩ (.int .i64 (ws.length:Int)))):=Lh ((HBw.out.setCell (p:=⟨Cb,i,none⟩) HNE.out.2.1 _).setCell (p:=⟨Eb,i,none⟩) HNE.out.2.2 _);rw[show rowC ws m k i cur.1=List.replicate i 0++cur.1::(bestL ws m k).map (·.1) from rfl,row_set] at HC2;rw[show rowE ws m k i (cur.2:Int)=List.replicate i 0++(cur.2:Int)::(bestL ws m k).map (fun x=>(x.2:Int)) from rfl,row_set] at HE2;have HRC:=Lh (rowC_next HIN.out HRES.out);have HRE:=Lh (rowE_next HIN.out HRES.out);clear HE1 hlast;go_wp2_with fail;go_roundw;(case rel=>exact⟨k+1,i,by go_num,Lh (by have:=HIN.out;omega),Lh (by rw[←HRC.out];exact HC2.out),Lh (by rw[←HRE.out];exact HE2.out),HB2⟩);case measure=>(first|(simp[intOf];done)|(simp[intOf];omega))
      ·have hl1:¬(p:Int)+1=(ws.length:Int):=by omega
       have hl2:((p:Int)+1==(ws.length:Int))=false:=(by rw[beq_eq_false_iff_ne];omega);obtain⟨bd,hbd⟩:∃bd,(bestL ws m k)[d]? =some bd:=by
        have h:=QaZ ws m k;exact⟨_,qG (by have:=HP.out;have:=HIN.out;omega)⟩
       have hbb:=bestL_cost HR.out k bd (List.mem_of_getElem? hbd);have HHD:=Lh (head_drop _ _ _ hbd)
       have c2:wr.cell? ⟨Cb,p+1,none⟩=some (.int .i64 bd.1):=HCR.out.cell (p+1) (by
        have e:p+1=i+d+1:=(by have:=HP.out.1;omega)
        rw[e,show rowC ws m k i cur.1=List.replicate i 0++cur.1::(bestL ws m k).map (·.1) from rfl,row_behind,List.getElem?_map,hbd];rfl)
       have HBD:=Lh hbd;have hk5:(k:Int)≤500:=(by have:=HIN.out;omega);have hb0:0≤bd.1:=hbb.1;have hb1:bd.1≤2050000000:=(by have:=hbb.2;omega);have hbk:bd.1≤4100000*(k:Int):=hbb.2;obtain⟨cb,hcb⟩:∃x,bd.1=x:=⟨_,rfl⟩;rw[hcb] at c2 hb0 hb1 hbk;have HCBE:=Lh hcb;clear hcb hbd hbb;obtain⟨q,hq⟩:∃q,s2*s2=q:=⟨_,rfl⟩;have hq0:0≤q:=(by rw[←hq];exact Int.mul_nonneg hnn hnn);have hq1:q≤4024036:=(by rw[←hq];exact Int.mul_le_mul hsa hsa hnn (by omega));have HQ:=Lh hq;have hw1:IntKind.i64.wrap (s2*s2)=q:=(by rw[hq];exact IntWalk.i64_in _ (by omega));have hw2:IntKind.i64.wrap (q+cb)=q+cb:=IntWalk.i64_in _ (by omega);have HW1:=Lh hw1;clear hq
       have HST:Hid (scanE ws.length (ws.drop i) (bestL ws m k) (m+6) (i+1) true (0,0)=scanE ws.length (ws.drop (p+1)) ((bestL ws m k).drop (d+1)) s2 (p+1+1) false (if decide (d=0)=true∨q+cb≤cur.1 then(q+cb,p+1) else cur)):=Lh (by
        rw[HSC.out,HDR.out,scanE_step _ _ _ _ _ _ _ _ HNN.out (by omega),HSE.out,HHD.out,HQ.out,HCBE.out,List.tail_drop])
       by_cases hd0:d=0
       ·subst hd0;obtain rfl:p=i:=by have:=HP.out.1;omega
        go_upto_region 16 with(fail);go_quiet (fail);have hdn:Below wr.heap.size wr (wr.drewN nq):=Below.dn bR nq;have HCRn:=Lh (HCR.out.to hdn);have HERn:=Lh (HER.out.to hdn);have HBn:=Lh (HBw.out.trans (hdn.mono HBw.out.size));have c2n:(wr.drewN nq).cell? ⟨Cb,p+1,none⟩=some (.int .i64 cb):=c2;clear hdn c0 f0 c2;generalize World.drewN wr nq=wn at*;have c0:wn.cell? ⟨Cb,p,none⟩=some (.int .i64 cur.1):=HCRn.out.cell p (row_at _ _ _);have f0:=HCRn.out.fz p;have HE1:Hid (IRow (wn.setCell ⟨Cb,p,none⟩ (.int .i64 (q+cb))) Eb 3 (rowE ws m k p (cur.2:Int))):=Lh (HERn.out.other (Ne.symm HNE.out.1) p (.int .i64 (q+cb)));have c1:=HE1.out.cell p (row_at _ _ _);have f1:=HE1.out.fz p;have HC2:Hid (IRow ((wn.setCell ⟨Cb,p,none⟩ (.int .i64 (q+cb))).setCell ⟨Eb,p,none⟩ (.int .i64 ((p:Int)+1))) Cb 3 (rowC ws m k p (q+cb))):=Lh (by have:=(HCRn.out.set p (q+cb)).other HNE.out.1 p (.int .i64 ((p:Int)+1));rwa [show rowC ws m k p cur.1=List.replicate p 0++cur.1::(bestL ws m k).map (·.1) from rfl,row_set] at this);have HE2:Hid (IRow ((wn.setCell ⟨Cb,p,none⟩ (.int .i64 (q+cb))).setCell ⟨Eb,p,none⟩ (.int .i64 ((p:Int)+1))) Eb 3 (rowE ws m k p ((p+1:Nat):Int))):=Lh (by have:=HE1.out.set p ((p:Int)+1);rwa [show rowE ws m k p (cur.2:Int)=List.replicate p 0++(cur.2:Int)::(bestL ws m k).map (fun x=>(x.2:Int)) from rfl,row_set] at this);have HB2:Hid (Below w.heap.size w ((wn.setCell ⟨Cb,p,none⟩ (.int .i64 (q+cb))).setCell ⟨Eb,p,none⟩ (.int .i64 ((p:Int)+1)))):=Lh ((HBn.out.setCell (p:=⟨Cb,p,none⟩) HNE.out.2.1 _).setCell (p:=⟨Eb,p,none⟩) HNE.out.2.2 _);clear HE1;go_wp2_with fail;go_roundw;(case rel=>exact⟨0+1,p+1,s2,(q+cb,p+1),rfl,by go_num,Lh (by have:=HP.out;omega),hsa,hnn,Lh (by rw[HST.out,if_pos (by simp_all)];rfl),Lh (by simp only;omega),HC2,HE2,HB2⟩);case measure=>(first|(simp[intOf];done)|(simp[intOf];omega))
       ·have hpi:¬(p:Int)=(i:Int):=by have:=HP.out.1;omega
        have hpi2:((p:Int)==(i:Int))=false:=(by rw[beq_eq_false_iff_ne];exact hpi);have hpi3:((p:Int)+1==(i:Int)+1)=false:=(by rw[beq_eq_false_iff_ne];omega);by_cases hle:q+cb≤cur.1
        ·go_upto_region 16 with(fail);go_quiet (fail);have hdn:Below wr.heap.size wr (wr.drewN nq):=Below.dn bR nq;have HCRn:=Lh (HCR.out.to hdn);have HERn:=Lh (HER.out.to hdn);have HBn:=Lh (HBw.out.trans (hdn.mono HBw.out.size));have c2n:(wr.drewN nq).cell? ⟨Cb,p+1,none⟩=some (.int .i64 cb):=c2;clear hdn c0 f0 c2;generalize World.drewN wr nq=wn at*;have c0:wn.cell? ⟨Cb,i,none⟩=some (.int .i64 cur.1):=HCRn.out.cell i (row_at _ _ _);have f0:=HCRn.out.fz i;have HE1:Hid (IRow (wn.setCell ⟨Cb,i,none⟩ (.int .i64 (q+cb))) Eb 3 (rowE ws m k i (cur.2:Int))):=Lh (HERn.out.other (Ne.symm HNE.out.1) i (.int .i64 (q+cb)));have c1:=HE1.out.cell i (row_at _ _ _);have f1:=HE1.out.fz i;have HC2:Hid (IRow ((wn.setCell ⟨Cb,i,none⟩ (.int .i64 (q+cb))).setCell ⟨Eb,i,none⟩ (.int .i64 ((p:Int)+1))) Cb 3 (rowC ws m k i (q+cb))):=Lh (by have:=(HCRn.out.set i (q+cb)).other HNE.out.1 i (.int .i64 ((p:Int)+1));rwa [show rowC ws m k i cur.1=List.replicate i 0++cur.1::(bestL ws m k).map (·.1) from rfl,row_set] at this);have HE2:Hid (IRow ((wn.setCell ⟨Cb,i,none⟩ (.int .i64 (q+cb))).setCell ⟨Eb,i,none⟩ (.int .i64 ((p:Int)+1))) Eb 3 (rowE ws m k i ((p+1:Nat):Int))):=Lh (by have:=HE1.out.set i ((p:Int)+1);rwa [show rowE ws m k i (cur.2:Int)=List.replicate i 0++(cur.2:Int)::(bestL ws m k).map (fun x=>(x.2:Int)) from rfl,row_set] at this);have HB2:Hid (Below w.heap.size w ((wn.setCell ⟨Cb,i,none⟩ (.int .i64 (q+cb))).setCell ⟨Eb,i,none⟩ (.int .i64 ((p:Int)+1)))):=Lh ((HBn.out.setCell (p:=⟨Cb,i,none⟩) HNE.out.2.1 _).setCell (p:=⟨Eb,i,none⟩) HNE.out.2.2 _);clear HE1;go_wp2_with fail;go_roundw;(case rel=>exact⟨d+1,p+1,s2,(q+cb,p+1),rfl,by go_num,Lh (by have:=HP.out;omega),hsa,hnn,Lh (by rw[HST.out,if_pos (by simp_all)];rfl),Lh (by simp only;omega),HC2,HE2,HB2⟩);case measure=>(first|(simp[intOf];done)|(simp[intOf];omega))
        ·go_upto_region 16 with(fail);go_quiet (fail);have hdn:Below wr.heap.size wr (wr.drewN nq):=Below.dn bR nq;have HCRn:=Lh (HCR.out.to hdn);have HERn:=Lh (HER.out.to hdn);have HBn:=Lh (HBw.out.trans (hdn.mono HBw.out.size));have c2n:(wr.drewN nq).cell? ⟨Cb,p+1,none⟩=some (.int .i64 cb):=c2;clear hdn c0 f0 c2;generalize World.drewN wr nq=wn at*;go_wp2_with fail;go_roundw;(case rel=>exact⟨d+1,p+1,s2,cur,rfl,by go_num,Lh (by have:=HP.out;omega),hsa,hnn,Lh (by rw[HST.out,if_neg (by simp_all)];rfl),Lh (by have:=HCB.out;omega),HCRn,HERn,HBn⟩);case measure=>(first|(simp[intOf];done)|(simp[intOf];omega))
theorem mul1_any (k:Nat)(hk:k≤500)(w:World):Calls Tryd.prog 94 #[.int .u64 1,.int .u64 (k:Int)] w fun e w'=>e=.returned (.tuple #[.int .u64 0,.int .u64 (k:Int)])∧w=w':=by
 have h:=Tryd.bits_Mul 1 k (by decide) (by omega) w;have e1:1*k/18446744073709551616=0:=Nat.div_eq_of_lt (by omega);have e2:1*k%18446744073709551616=k:=by rw[Nat.one_mul];exact Nat.mod_eq_of_lt (by omega)
 rw[e1,e2] at h;refine h.mono ?_;rintro e w' ⟨rfl,rfl⟩;exact⟨rfl,rfl⟩
theorem wp_copy_own {P:Program}{w:World}{o:Oper}{a:Act}{K:Act→World→Prop}{Q:Exit→Act→World→Prop}(d s:Operand)(dT sT:TypeId) (ho:o.op=.call {callee:=.builtin .copy,args:=#[d,s],argTypes:=#[dT,sT]}) (elem:TypeId) (hu:P.underlying dT=some (.slice elem)) (hsz:(P.info? elem).map (·.size)=some 1) (g off dLen dCap:Nat) (ad:Addr) (sLen sCap:Nat) (hd:a.eval d=.slice (some ⟨g,off,none⟩) dLen dCap) (hs:a.eval s=.slice (some ad) sLen sCap) (cur:Array Value) (t:TypeId) (hg:w.heap[g]? =some (.cells cur t (0,0))) (cs:List Value) (hn:cs.length=Nat.min sLen dLen) (hsrc:∀j v,cs[j]? =some v→w.cell? (ad.add j)=some v) (hfit:off+cs.length≤cur.size) (h1:∀v∈cs,v.oneCell'=true) (h:K (a.put o.dst (goInt cs.length)) (w.setRow g (cur.toList.take off++(cs++cur.toList.drop (off+cs.length))).toArray)):o.wp P a w K Q:=by
 have hrun:=run_copy_row (P:=P) w dT sT o.type elem g off dLen dCap ad sLen sCap cur t cs hu hsz hg hn hsrc hfit h1;unfold Oper.wp;simp[execOp,ho,resolve,invoke,builtin,hd,hs,hrun,Result.andThen];exact h
theorem rep_copy (x:Int)(n k c:Nat)(hn:n+c≤k):((((List.replicate n x++List.replicate (k-n) 0).map (Value.int .i64)).toArray.toList.take n)++(List.replicate c (Value.int .i64 x)++(((List.replicate n x++List.replicate (k-n) 0).map (Value.int .i64)).toArray.toList.drop (n+c)))).toArray=((List.replicate (n+c) x++List.replicate (k-(n+c)) 0).map (Value.int .i64)).toArray:=by
 congr 1;simp only[List.map_append,List.map_replicate];rw[List.take_append_of_le_length (by simp),List.take_of_length_le (by simp),List.drop_append,List.drop_of_length_le (by simp),List.nil_append,List.drop_replicate,List.length_replicate,←List.append_assoc,List.replicate_append_replicate];congr 2;omega
set_option maxRecDepth 100000 in
theorem repeat_any (b o c:Nat)(x:Int)(k:Nat)(hk1:1≤k)(hk:k≤500)(_hx:I64 x)(w:World)(hc:w.cell? ⟨b,o,none⟩=some (.int .i64 x)):
 Calls Tryd.prog 89 #[.slice (some ⟨b,o,none⟩) 1 c,.int .i64 (k:Int)] w fun e w'=>∃g,e=.returned (.slice (some ⟨g,0,none⟩) k k)∧w.heap.size≤g∧IRow w' g 3 (List.replicate k x)∧Below w.heap.size w w':=by
 have HM:=Lh (fun W=>mul1_any k hk W);have hk0:(0:Int)≤(k:Int):=by omega
 have hk5:(k:Int)≤500:=by omega
 have HC:=Lh hc;clear hc;go_enter Tryd.func89,Tryd.ntmps89;have HR0:Hid (IRow (w.alloc (.cells (madeCells #[Value.int .i64 0] k) 3)) w.heap.size 3 (List.replicate k 0)):=Lh (Qa9 w k _)
 have HSR:Hid (IRow ((w.alloc (.cells (madeCells #[Value.int .i64 0] k) 3)).setRow w.heap.size (Value.int .i64 x::List.replicate (k-1) (Value.int .i64 0)).toArray) w.heap.size 3 (List.replicate 1 x++List.replicate (k-1) 0)):=Lh (by
  unfold IRow ABox
  rw[setRow_heap _ _ _ _ _ _ HR0.out]
  simp[List.replicate])
 have HB1:Hid (Below w.heap.size w ((w.alloc (.cells (madeCells #[Value.int .i64 0] k) 3)).setRow w.heap.size (Value.int .i64 x::List.replicate (k-1) (Value.int .i64 0)).toArray)):=Lh (QcM (bR.alloc nL _) nL _)
 go_wp2_with (first
  |(go_at_call 94;refine(HM.out _).mono ?_;rintro e w' ⟨rfl,rfl⟩)
  |(refine Qby rfl 22 (.tmp 29) (.tmp 29) rfl 3 (.int .i64 0) 1 8 Tryd.underlying22 QaY k rfl rfl (by omega) (by omega) ?_)
  |(refine wpList_copy_own rfl (.tmp 31) (.tmp 32) 22 22 rfl 3 Tryd.underlying22 (by kernel_rfl) w.heap.size 0 k k ⟨b,o,none⟩ 1 c rfl rfl _ 3 HR0.out [.int .i64 x] (by show 1=Nat.min 1 k;exact(Nat.min_eq_left hk1).symm) (fun j v hv=>by
     have hj:j=0:=by
      rcases j with _|j
      ·rfl
      ·simp at hv
     subst hj
     simp at hv
     subst hv
     exact((Below.refl w.heap.size w).alloc nL _).cell (p:=⟨b,o,none⟩) (World.block_lt_of_cell? w _ HC.out) |>.trans HC.out) (by simpa using hk1) (fun v hv=>by simp at hv;subst hv;rfl) ?_)
  |fail)
 go_loopw [8] (fun v wr=>∃n:Nat,1≤n∧n≤k∧v=.int .i64 (n:Int)∧Hid (IRow wr w.heap.size 3 (List.replicate n x++List.replicate (k-n) 0))∧Hid (Below w.heap.size w wr)) (fun v _=>k-(intOf v).toNat);(case atStart=>exact⟨1,Nat.le_refl _,hk1,rfl,HSR,HB1⟩);case round=>
  clear HSR HB1 HR0;obtain⟨n,hn1,hn2,rfl,HR,HB⟩:=hrel;by_cases hlt:n<k
  ·have hnk:(n:Int)<(k:Int):=by omega
   have hn0:(0:Int)≤(n:Int):=(by omega);go_upto_region 9 with(fail);refine Qay (fun _=>True) (fun _=>true) (by kernel_rfl) ?_;have HRd:Hid (IRow wr.drew w.heap.size 3 (List.replicate n x++List.replicate (k-n) 0)):=Lh (HR.out.to bR.drew);have HBd:Hid (Below w.heap.size w wr.drew):=Lh (HB.out.trans bR.drew);clear HR HB;generalize wr.drew=wq at*;have hnk2:(n:Int)≤(k:Int):=(by omega);have hnk3:n≤k:=(by omega);have hkn:¬k=n:=by omega
   refine Qak (i:=0) (oi:=⟨some 38,Op.move (.tmp 8),3,_,_,_⟩) (v:=?_) rfl (by kernel_rfl) (by kernel_rfl) (by kernel_rfl) (by kernel_rfl) (by kernel_rfl) (fun _ _ _ h=>h) (by rfl) ?zq0 trivial ?zq1;(case zq0=>intro _ s;clear s;go_simp;(try with_reducible rfl));(all_goals try go_frame);refine Qak (i:=1) (oi:=⟨some 39,Op.move (.tmp 7),22,_,_,_⟩) (v:=?_) rfl (by kernel_rfl) (by kernel_rfl) (by kernel_rfl) (by kernel_rfl) (by kernel_rfl) (fun _ _ _ h=>h) (by rfl) ?zq2 trivial ?zq3;(case zq2=>intro _ s;clear s;go_simp;(try with_reducible rfl));(all_goals try go_frame);refine Qak (i:=2) (oi:=⟨some 40,Op.move (.tmp 8),3,_,_,_⟩) (v:=?_) rfl (by kernel_rfl) (by kernel_rfl) (by kernel_rfl) (by kernel_rfl) (by kernel_rfl) (fun _ _ _ h=>h) (by rfl) ?zq4 trivial ?zq5;(case zq4=>intro _ s;clear s;go_simp;(try with_reducible rfl));(all_goals try go_frame);refine Qak (i:=3) (oi:=⟨some 41,Op.slice 22 (.tmp 39) (some (.tmp 40)) none none,22,_,_,_⟩) (v:=?_) rfl (by kernel_rfl) (by kernel_rfl) (by kernel_rfl) (by kernel_rfl) (by kernel_rfl) (fun _ _ _ h=>h) (by rfl) ?zq6 trivial ?zq7;(case zq6=>intro _ s;clear s;go_simp;(try with_reducible rfl));(all_goals try go_frame);refine Qak (i:=4) (oi:=⟨some 42,Op.move (.tmp 7),22,_,_,_⟩) (v:=?_) rfl (by kernel_rfl) (by kernel_rfl) (by kernel_rfl) (by kernel_rfl) (by kernel_rfl) (fun _ _ _ h=>h) (by rfl) ?zq8 trivial ?zq9;(case zq8=>intro _ s;clear s;go_simp;(try with_reducible rfl));(all_goals try go_frame);refine Qak (i:=5) (oi:=⟨some 43,Op.move (.tmp 8),3,_,_,_⟩) (v:=?_) rfl (by kernel_rfl) (by kernel_rfl) (by kernel_rfl) (by kernel_rfl) (by kernel_rfl) (fun _ _ _ h=>h) (by rfl) ?zq10 trivial ?zq11;(case zq10=>intro _ s;clear s;go_simp;(try with_reducible rfl));(all_goals try go_frame);refine Qak (i:=6) (oi:=⟨some 44,Op.slice 22 (.tmp 42) none (some (.tmp 43)) none,22,_,_,_⟩) (v:=?_) rfl (by kernel_rfl) (by kernel_rfl) (by kernel_rfl) (by kernel_rfl) (by kernel_rfl) (fun _ _ _ h=>h) (by rfl) ?zq12 trivial ?zq13;(case zq12=>intro _ s;clear s;go_simp;(try with_reducible rfl));(all_goals try go_frame);obtain⟨cn,hcn⟩:∃cn,cn=min n (k-n):=⟨_,rfl⟩;have hcn1:n+cn≤k:=(by omega);have hcn2:1≤cn:=(by omega);have hcn3:cn≤n:=(by omega);have HCN:=Lh hcn;clear hcn;have hw1:IntKind.i64.wrap ((n:Int)+(cn:Int))=(n:Int)+(cn:Int):=IntWalk.i64_in _ (by omega);refine tD 7 ⟨some 45,Op.call {callee:=Callee.builtin Builtin.copy,args:=#[Operand.tmp 41,Operand.tmp 44],argTypes:=#[22,22]},3,_,_,_⟩ rfl fun K hK=>?_
   refine wp_copy_own (.tmp 41) (.tmp 44) 22 22 rfl 3 Tryd.underlying22 (by kernel_rfl) w.heap.size n (k-n) (k-n) ⟨w.heap.size,0,none⟩ n k ?_ ?_ _ 3 HRd.out (List.replicate cn (.int .i64 x)) (by rw[List.length_replicate,HCN.out]) (fun j v hv=>?_) (by first|(simp;done)|(simp;omega)) (fun v hv=>by rw[List.eq_of_mem_replicate hv];rfl) ?_
   ·rfl
   ·rfl
   ·obtain⟨hj,hv2⟩:=List.getElem?_eq_some_iff.1 hv;rw[List.length_replicate] at hj;have e:v=.int .i64 x:=(by rw[←hv2];simp);rw[e,Addr.add_mid,Nat.zero_add];exact HRd.out.cell j (by rw[List.getElem?_append_left (by simp;omega),List.getElem?_replicate,if_pos (by omega)])
   rw[List.length_replicate,rep_copy x n k cn hcn1];have hq7:goInt cn=.int .i64 (cn:Int):=rfl;rw[hq7];refine hK _ _ (fun _=>trivial) ?_;clear hK K hq7;(try go_frame);have HRN:Hid (IRow (wq.setRow w.heap.size ((List.replicate (n+cn) x++List.replicate (k-(n+cn)) 0).map (Value.int .i64)).toArray) w.heap.size 3 (List.replicate (n+cn) x++List.replicate (k-(n+cn)) 0)):=Lh (setRow_heap _ _ _ _ _ _ HRd.out);have HBN:Hid (Below w.heap.size w (wq.setRow w.heap.size ((List.replicate (n+cn) x++List.replicate (k-(n+cn)) 0).map (Value.int .i64)).toArray)):=Lh (QcM HBd.out nL _);generalize wq.setRow w.heap.size ((List.replicate (n+cn) x++List.replicate (k-(n+cn)) 0).map (Value.int .i64)).toArray=wn at*;refine tD 8 ⟨some 46,Op.binOp BinOp.add 3 (.tmp 38) (.tmp 45) 3,3,_,_,_⟩ rfl fun K hK=>?_
   go_simp;refine hK _ _ (fun _=>trivial) ?_;clear hK K;(try go_frame);refine tD 9 ⟨some 8,Op.assign (.tmp 46),3,_,_,_⟩ rfl fun K hK=>?_
   go_simp;refine hK _ _ (fun _=>trivial) ?_;clear hK K;(try go_frame);refine Qam (by kernel_rfl) ?_ _;(try unfold Exit.then);go_wp2_with fail;go_roundw;(case rel=>exact⟨n+cn,by omega,hcn1,by go_num,HRN,HBN⟩);case measure=>(first|(simp[intOf];done)|(simp[intOf];omega))
  ·obtain rfl:n=k:=by omega
   go_wp2_with fail;go_ret;exact⟨w.heap.size,rfl,Nat.le_refl _,by have:=HR.out;rwa [Nat.sub_self,List.replicate_zero,List.append_nil] at this,HB.out⟩
end Go.Proofs.YtegaapiocihcpaaDoor
