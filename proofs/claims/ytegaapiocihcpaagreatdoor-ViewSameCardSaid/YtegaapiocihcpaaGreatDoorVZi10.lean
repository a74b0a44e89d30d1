/- Texts of VwCSm. -/
import Derived.Test.YtegaapiocihcpaaGreatDoorVZi9
set_option maxHeartbeats 16000000
namespace Go.Proofs.YtegaapiocihcpaaGreatDoor
open Go.RowKit
def LastI (op:Bool)(la at_:Int):Prop:= -2≤la∧if op=true then la=at_-1 else la<at_-1
theorem mark_rep {w:World}{S:Nat→Prop}(x:MarkP):Rep.R w S [.int .i64 x.br,.int .i64 x.num,.int .i64 x.suf,.int .i64 x.line,.string x.words] x:=rfl
set_option maxRecDepth 100000 in
theorem Qdz {m h:Int}{A:Option Addr}{c:Nat}{l:List SectP}(br gs:Int)(As:Option Addr)(cs ns:Nat)(sl:List Seal){w:World}(H:BookOk w m h A c l)(hT:Tabs w)(heq:∀s∈l,s.texts.length=s.vers.length) (hP:∀p∈Qae m h l,PgV l p) (hps:(Qae m h l).length≤1048576) (hN:(QaQ m h l sl gs br).length≤400000000000) (hsl:Sl w (fun b=>b<w.heap.size) As cs sl) (hn:sl.length=ns) (hsz:ns≤1048576) (hg:∀s∈sl,0≤s.g∧s.g<16):
 Calls Tryz.prog 22 #[.agg #[.int .i64 m,.int .i64 h,.slice A l.length c],.int .i64 br,.slice As ns cs,.int .i64 gs] w fun r W'=>∃v,r=.returned v∧Own W' w.heap.size 61 v (QaQ m h l sl gs br)∧Below w.heap.size w W':=by
 have hb0:=(Below.refl w.heap.size w).alloc nL (.cells #[.int .i64 m,.int .i64 h,.slice A l.length c] 25);have hx0:ABox (w.alloc (.cells #[.int .i64 m,.int .i64 h,.slice A l.length c] 25)) w.heap.size 25 [.int .i64 m,.int .i64 h,.slice A l.length c]:=heap_alloc_new w _;have hPg:=QbI (H.to hb0);have HTX:=Lh (fun(W:World) (hW:Below w.heap.size w W) (p:PageP)=>textAt_any (m:=m) (h:=h) (w:=W) (H.s.to hW) H.sh heq p.entry p.ver);have HSL:=Lh (fun(W:World) (hW:Below w.heap.size w W)=>hsl.to hW);have HTB:=Lh (fun(W:World) (hW:Below w.heap.size w W)=>hT.to hW);have HPV:=Lh hP;have HNS:=Lh hn;have HSZ:=Lh hsz;have HG:=Lh hg;have HLL:=Lh hps;have HAN:=Lh hN;go_enter Tryz.func22,Tryz.ntmps22;go_upto_region 1 with(fail);generalize w.alloc (.cells #[.int .i64 m,.int .i64 h,.slice A l.length c] 25)=w0 at*;have x0:=hx0.cell 0 rfl;have x1:=hx0.cell 1 rfl;have x2:=hx0.cell 2 rfl;have HB0:=Lh hb0;have HX0:=Lh hx0;have HP:=Lh hPg;clear hb0 hx0 hPg hT hsl hn hsz hg hP hps heq H hN
 go_upto_region 3 with(first|(go_at_call 26;refine HP.out.mono ?_;rintro e w1 ⟨v,R,rfl,ho,hR,hb1⟩;obtain⟨A2,c2,rfl,hs⟩:=ho.plain.sl;have hnc:=hs.1;have hnc2:c2≤9223372036854775807:=hs.2.1;have hn2:=HLL.out;have HS:=Lh hs;have HX1:=Lh (HX0.out.to hb1);have HB1:=Lh (HB0.out.trans (hb1.mono HB0.out.size));clear hb1 x0 x1 x2 hR ho hs)|fail)
 unfold QaQ at HAN;obtain⟨ps,hps⟩:∃ps,Qae m h l=ps:=⟨_,rfl⟩;have HPS:=Lh hps;rw[hps] at HS HPV HLL HAN hnc hn2 ⊢;clear HP;obtain⟨n,hn⟩:∃n,ps.length=n:=⟨_,rfl⟩;have HN:=Lh hn;rw[hn] at hnc hn2 ⊢;clear hn hps;go_wp2_with fail;go_loopw [9,22] (fun v i wr=>∃k:Nat,k≤n∧i=.int .i64 k∧Hid (Own wr w1.heap.size 61 v (QaR l sl gs br (ps.take k)))∧Below w1.heap.size w1 wr) (fun _ i _=>n-(intOf i).toNat);(case atStart=>exact⟨0,by omega,rfl,Lh (Own.nil _ _ _),Below.refl _ _⟩);case round=>
  obtain⟨k,hk,rfl,HO,hb⟩:=hrel;have HB:=Lh hb;have HBW:Hid (Below w.heap.size w wr):=Lh (HB1.out.trans (hb.mono HB1.out.size));by_cases hlt:k<n
  ·have hkl:k<ps.length:=by rw[HN.out];exact hlt
   have HTK:=Lh (QdS l sl gs br hkl);have HANk:Hid ((QaR l sl gs br (ps.take k)).length+(QbQ sl gs br ps[k] (QaF (QaC l ps[k]))).length≤400000000000):=Lh (annexB_le l sl gs br hkl HAN.out);obtain⟨b,o,va,vb,rfl,-,hblt,p0,p1,p2,p3,p4,p5,ra,rb⟩:=Qd6 (HS.out.keep (Kept.all hb) hb.size) hkl;have hy:=HPV.out _ (List.getElem_mem hkl);obtain⟨Ap,cp,e1,hbo,-⟩:=ra;obtain⟨Aq,cq,e2,hno,-⟩:=rb;obtain rfl:va=.slice Ap ps[k].body.length cp:=by simpa using e1
   obtain rfl:vb=.slice Aq ps[k].notes.length cq:=by simpa using e2
   obtain⟨p,hp⟩:∃p,ps[k]=p:=⟨_,rfl⟩;rw[hp] at p0 p1 p2 p3 p4 p5 hbo hno hy HTK HANk;have HY:=Lh hy;have HBO:=Lh hbo;have HNO:=Lh hno;obtain⟨num,suf,en,ve,body,notes⟩:=p;dsimp only at p0 p1 p2 p3 p4 p5 HBO HNO;obtain⟨a,rfl⟩:=Int.eq_ofNat_of_zero_le (show 0≤num by have:=HY.out.num.1;dsimp only at this;omega);obtain⟨z,rfl⟩:=Int.eq_ofNat_of_zero_le (show 0≤suf from HY.out.suf.1);have hki:(k:Int)<n:=(by omega);obtain⟨L,hL⟩:∃L,QaR l sl gs br (ps.take k)=L:=⟨_,rfl⟩;rw[hL] at HO HTK HANk;clear hy hbo hno hb e1 e2 hp hL;go_upto_region 5 with(fail);obtain⟨X1,hX1⟩:∃q,wr.heap.size=q:=⟨_,rfl⟩;obtain⟨w2,hw2⟩:∃q,wr.alloc (.cells #[.int .i64 a,.int .i64 z,.int .i64 en,.int .i64 ve,.slice Ap body.length cp,.slice Aq notes.length cq] 43)=q:=⟨_,rfl⟩;have hb2:Below wr.heap.size wr w2:=by rw[←hw2];exact bR.alloc nL _
   have hx1:ABox w2 X1 43 [.int .i64 a,.int .i64 z,.int .i64 en,.int .i64 ve,.slice Ap body.length cp,.slice Aq notes.length cq]:=(by rw[←hw2,←hX1];exact heap_alloc_new wr _);rw[hw2,hX1];have HXP:=Lh hx1;have HB2:=Lh hb2;have HBW2:Hid (Below w.heap.size w w2):=Lh (HBW.out.trans (hb2.mono HBW.out.size));have HXB:Hid (ABox w2 w.heap.size 25 [.int .i64 m,.int .i64 h,.slice A l.length c]):=Lh ((HX1.out.to HB.out).to hb2);have b0:=HXB.out.cell 0 rfl;have b1:=HXB.out.cell 1 rfl;have b2:=HXB.out.cell 2 rfl;have q2:=hx1.cell 2 rfl;have q3:=hx1.cell 3 rfl;have HX1w:Hid (wr.heap.size≤X1):=Lh (Nat.le_of_eq hX1);clear hX1 hw2 hb2 hx1 p0 p1 p2 p3 p4 p5
   go_upto_region 6 with(first|(go_at_call 27;refine(HTX.out w2 HBW2.out ⟨a,z,en,ve,body,notes⟩).mono ?_;rintro e w3 ⟨⟨Aa,ca,Ab,cb,rfl,hta,htb⟩,hb3⟩;have HTA:=Lh hta;have HTB2:=Lh htb;have HB3:=Lh hb3;clear hta htb hb3 b0 b1 b2 q2 q3)|fail)
   obtain⟨tx,htx⟩:∃t,QaC l ⟨a,z,en,ve,body,notes⟩=t:=⟨_,rfl⟩;have HTX9:=Lh htx;have htx':(QbT l en ve).getD ⟨[],[]⟩=tx:=htx;have HY2:=HY;rw[htx'] at HTA HTB2 ⊢;obtain⟨X2,hX2⟩:∃q,w3.heap.size=q:=⟨_,rfl⟩;obtain⟨w4,hw4⟩:∃q,w3.alloc (.cells #[.slice Aa tx.a.length ca,.slice Ab tx.b.length cb] 36)=q:=⟨_,rfl⟩;have hb4:Below w3.heap.size w3 w4:=(by rw[←hw4];exact bR.alloc nL _);have hx2:ABox w4 X2 36 [.slice Aa tx.a.length ca,.slice Ab tx.b.length cb]:=(by rw[←hw4,←hX2];exact heap_alloc_new w3 _);rw[hw4,hX2];have hb24:Below w2.heap.size w2 w4:=HB3.out.trans (hb4.mono HB3.out.size);have HBr4:Hid (Below wr.heap.size wr w4):=Lh (HB2.out.trans (hb24.mono HB2.out.size));have HB14:Hid (Below w1.heap.size w1 w4):=Lh (HB.out.trans (HBr4.out.mono HB.out.size));have HBW4:Hid (Below w.heap.size w w4):=Lh (HBW.out.trans (HBr4.out.mono HBW.out.size));have hxp:=HXP.out.to hb24;have p0:=hxp.cell 0 rfl;have p1:=hxp.cell 1 rfl;have p2:=hxp.cell 2 rfl;have p3:=hxp.cell 3 rfl;have p4:=hxp.cell 4 rfl;have p5:=hxp.cell 5 rfl;have t0:=hx2.cell 0 rfl;have t1:=hx2.cell 1 rfl;have hsb:∀{α:Type} [Rep α] {S:Nat→Prop} {A:Option Addr} {c:Nat} {l:List α},Sl w3 (fun b=>b<w3.heap.size) A c l→Sl w4 (fun b=>b<w4.heap.size) A c l:=fun h=>h.to hb4
   have HWD:=Lh (fun(W:World) (hW:Below w4.heap.size w4 W)=>vwords_any Aa Ab ca cb tx.a tx.b W ((HTA.out.to hb4).to hW) ((HTB2.out.to hb4).to hW) (by have:=HY.out.la;rw[htx] at this;exact this) (by have:=HY.out.lb;rw[htx] at this;exact this) (by have:=HY.out.tt;rw[htx] at this;exact this));have HTT:=Lh (show tot (tx.a++tx.b)≤1048576 by have:=HY.out.tt;rw[htx] at this;exact this);have HWS:=Lh (show ∀y∈QaF tx,y.s.size≤1000 by have:=HY.out.ws;rw[htx] at this;exact this);have HIN:=Lh (show ∀x∈body++notes,InL (tot (tx.a++tx.b)) x by have:=HY.out.inl;rw[htx] at this;exact this);have HBL:=Lh HY.out.bl;have HNL:=Lh HY.out.nl;dsimp only at HBL HNL;rw[htx] at HTK HANk;have HO4:=Lh (HO.out.below HBr4.out);have HX1p:Hid (ABox w4 X1 43 [.int .i64 a,.int .i64 z,.int .i64 en,.int .i64 ve,.slice Ap body.length cp,.slice Aq notes.length cq]):=Lh hxp;have HX1z:Hid (X1<w4.heap.size):=Lh hxp.lt;have HZ4:Hid (wr.heap.size≤w4.heap.size):=Lh HBr4.out.size;have HBO4:Hid (Sl w4 (fun b=>b<w4.heap.size) Ap cp body):=Lh ((HBO.out.mono (fun _ _ hh=>hh)).to HBr4.out);have HNO4:Hid (Sl w4 (fun b=>b<w4.heap.size) Aq cq notes):=Lh ((HNO.out.mono (fun _ _ hh=>hh)).to HBr4.out);have HVB:=Lh HO.out.lt;clear htx htx' hX2 hw4 hb4 hx2 hb24 hxp hsb p0 p1 p2 p3 p4 p5;have HYN:Hid (en=en):=Lh rfl;obtain⟨Av,cv,rfl,-⟩:=HO4.out.form;obtain⟨P,hP⟩:∃p,(⟨(a:Int),(z:Int),en,ve,body,notes⟩:PageP)=p:=⟨_,rfl⟩;have HPe:Hid (P.entry=en∧P.ver=ve∧P.num=a∧P.suf=z∧P.body=body∧P.notes=notes):=Lh (by rw[←hP];exact⟨rfl,rfl,rfl,rfl,rfl,rfl⟩);rw[hP] at HTK HANk;clear hP;obtain⟨ws,hws⟩:∃q,QaF tx=q:=⟨_,rfl⟩;have HWL:Hid (ws.length=tot (tx.a++tx.b)):=Lh (by rw[←hws];exact Qdl tx);have hws2:QaF ⟨tx.a,tx.b⟩=ws:=hws;rw[hws] at HTK HANk HWS;rw[hws2] at HWD;clear hws hws2
   go_upto_region 7 with(first|(go_at_call 62;refine(HWD.out w4 bR).mono ?_;rintro e w5 ⟨v5,rfl,ho5,hb5⟩;have HO5:=Lh ho5;have HB5:=Lh hb5;clear ho5 hb5 t0 t1)|fail)
   obtain⟨A5,c5,rfl,hs5,hA5,hc5,hc5m⟩:=HO5.out.parts;have HS5:=Lh hs5;have HA5:=Lh hA5;clear hA5 hs5;obtain⟨nw,hnw⟩:∃q,ws.length=q:=⟨_,rfl⟩;have HNW:=Lh hnw;have hnwt:nw≤1048576:=(by rw[←hnw,HWL.out];exact HTT.out);rw[hnw] at hc5 ⊢;clear hnw;have p4:=(HX1p.out.to HB5.out).cell 4 rfl;have p5:=(HX1p.out.to HB5.out).cell 5 rfl;have HX6:Hid (ABox (w5.alloc (.cells #[.slice Ap body.length cp,.slice Aq notes.length cq] 41)) w5.heap.size 41 [.slice Ap body.length cp,.slice Aq notes.length cq]):=Lh (heap_alloc_new w5 _);have HB6:Hid (Below w5.heap.size w5 (w5.alloc (.cells #[.slice Ap body.length cp,.slice Aq notes.length cq] 41))):=Lh (bR.alloc nL _);obtain⟨ls,hls⟩:∃q,body++notes=q:=⟨_,rfl⟩;have HLSE:=Lh hls;have HLSB:Hid (P.body++P.notes=ls):=Lh (by rw[HPe.out.2.2.2.2.1,HPe.out.2.2.2.2.2];exact hls);rw[hls] at HIN;obtain⟨nl,hnl⟩:∃q,ls.length=q:=⟨_,rfl⟩;have HNLS:=Lh hnl;have hnl2:nl≤2097152:=(by rw[←hnl,←hls,qA];have:=HNL.out;have:=HBL.out;omega);clear hls hnl
   go_wp2_with (first|(go_at_call 63;refine(concatL_any w5.heap.size Ap Aq cp cq body notes _ (HX6.out.cell 0 rfl) (HX6.out.cell 1 rfl) ((HBO4.out.to HB5.out).to HB6.out) ((HNO4.out.to HB5.out).to HB6.out) HBL.out HNL.out).mono ?_;rintro e w7 ⟨v7,rfl,ho7,hb7⟩;rw[HLSE.out] at ho7;obtain⟨A7,c7,rfl,hs7,hA7,hc7,hc7m⟩:=(ho7.re HB6.out.size).parts;rw[HNLS.out] at hc7 ⊢;have HS7:=Lh hs7;have HA7:=Lh hA7;have HB7:=Lh (HB6.out.trans (hb7.mono HB6.out.size));clear ho7 hb7 p4 p5 hs7 hA7)|fail)
   have HZ5:Hid (w5.heap.size≤w7.heap.size):=Lh HB7.out.size;have HB47:Hid (Below w4.heap.size w4 w7):=Lh (HB5.out.trans (HB7.out.mono HB5.out.size));have HX7:Hid (ABox w7 X1 43 [.int .i64 a,.int .i64 z,.int .i64 en,.int .i64 ve,.slice Ap body.length cp,.slice Aq notes.length cq]):=Lh (HX1p.out.to HB47.out);have HB17:Hid (Below w1.heap.size w1 w7):=Lh (HB14.out.trans (HB47.out.mono HB14.out.size))
   have HI0:Hid (MkI w1.heap.size w7 (Value.slice Av L.length cv).ownBlock (.slice Av L.length cv) (L++QaE sl gs br P ws 0 (ls.take 0)) w7):=Lh (by
    rw[List.take_zero,QaE,List.append_nil]
    exact MkI.start (HO4.out.below HB47.out))
   have HPL:Hid ((QbQ sl gs br P ws)=QaE sl gs br P ws 0 ls):=Lh (by unfold QbQ;rw[HLSB.out]);clear HX6 HB6;have HKL:=Lh hlt;obtain⟨wo,rfl⟩:∃wo:World,wo=wr:=⟨_,rfl⟩;go_loopw [9,44] (fun v i wr=>∃j:Nat,j≤nl∧i=.int .i64 j∧Hid (MkI w1.heap.size w7 (Value.slice Av L.length cv).ownBlock v (L++QaE sl gs br P ws 0 (ls.take j)) wr)) (fun _ i _=>nl-(intOf i).toNat);(case atStart=>exact⟨0,by omega,rfl,HI0⟩);case round=>
    clear HI0;obtain⟨j,hj,rfl,HI⟩:=hrel;have HB7q:Hid (Below w1.heap.size w7 wr):=Lh (HI.out.below HB17.out.size (fun i hi=>(HO.out.lt i hi).1));have HB1q:Hid (Below w1.heap.size w1 wr):=Lh (HB17.out.trans HB7q.out);by_cases hjl:j<nl
    ·have hjk:j<ls.length:=by rw[HNLS.out];exact hjl
     obtain⟨bl,ol,Ag,cg,An,cn,hAl,-,hbl,f0,f1,f2,f3,-,-⟩:=Qbz HS7.out hjk;obtain⟨x,hx⟩:∃x,ls[j]=x:=⟨_,rfl⟩;have hmk:=marksF_succ sl gs br P ws hjk;have hin:=HIN.out _ (List.getElem_mem hjk);rw[hx] at f0 f1 f2 f3 hmk hin;obtain⟨fr,un,gaps,nts⟩:=x;obtain⟨f,rfl⟩:=Int.eq_ofNat_of_zero_le (show 0≤fr from hin.1);obtain⟨U,rfl⟩:=Int.eq_ofNat_of_zero_le (show 0≤un by have h1:(f:Int)<un:=hin.2.1;omega);have hfU:f≤U:=(by have h1:(f:Int)<(U:Int):=hin.2.1;omega);have hUw:U≤nw:=by have h1:(U:Int)≤((tot (tx.a++tx.b):Nat):Int):=hin.2.2;have:=HWL.out;have:=HNW.out;omega
     have hneb:some bl≠(Value.slice Av L.length cv).ownBlock:=fun e=>by
      have h1:=(HA7.out _ hAl).1;have h2:=(HVB.out bl e.symm).2;have h3:=HB5.out.size;have h4:=HZ4.out;dsimp only at h1;omega
     have g0:=HI.out.cell (ol+j*4) hbl hneb f0;have g1:=HI.out.cell (ol+j*4+1) hbl hneb f1;have g2:=HI.out.cell (ol+j*4+2) hbl hneb f2;have g3:=HI.out.cell (ol+j*4+3) hbl hneb f3;dsimp only at g0 g1 g2 g3;obtain⟨X,hXx⟩:∃x:LineP,(⟨(f:Int),(U:Int),gaps,nts⟩:LineP)=x:=⟨_,rfl⟩;have HXF:Hid (0≤X.fr∧X.fr.toNat=f∧X.un.toNat=U):=Lh (by rw[←hXx];exact⟨Int.natCast_nonneg f,Int.toNat_natCast f,Int.toNat_natCast U⟩);rw[hXx] at hmk;have HMK:=Lh hmk;subst hAl;have hjI:(j:Int)<(nl:Int):=by omega
     have hnex:some X1≠(Value.slice Av L.length cv).ownBlock:=fun e=>by
      have h2:=(HVB.out X1 e.symm).2;have:=HX1w.out;omega
     obtain⟨F,hF⟩:∃F,QaE sl gs br P ws 0 (ls.take j)=F:=⟨_,rfl⟩;rw[hF] at HI HMK
     have HFL:Hid ((L++F).length+(Qde sl gs br P ws X j U).length≤400000000000):=Lh (by
      have h1:=HANk.out
      rw[HPL.out] at h1
      have h2:QaE sl gs br P ws 0 ls=QaE sl gs br P ws 0 (ls.take (j+1))++QaE sl gs br P ws (0+(ls.take (j+1)).length) (ls.drop (j+1)):=(by rw[←QcQ,List.take_append_drop])
      have h3:=mkTo_end (sl:=sl) (gs:=gs) (br:=br) (p:=P) (ws:=ws) (x:=X) (i:=j) HXF.out.1
      rw[HXF.out.2.2] at h3
      rw[h3]
      rw[h2,qA,HMK.out,qA] at h1
      rw[qA]
      omega)
     clear hF hx hXx hmk hin f0 f1 f2 f3;go_upto_region 10 with(fail);obtain⟨X3,hX3⟩:∃q,wr.heap.size=q:=⟨_,rfl⟩;obtain⟨w8,hw8⟩:∃q,wr.alloc (.cells #[.int .i64 f,.int .i64 U,.slice Ag gaps.length cg,.slice An nts.length cn] 56)=q:=⟨_,rfl⟩;have hb8:Below wr.heap.size wr w8:=(by rw[←hw8];exact bR.alloc nL _);have hx8:ABox w8 X3 56 [.int .i64 f,.int .i64 U,.slice Ag gaps.length cg,.slice An nts.length cn]:=(by rw[←hw8,←hX3];exact heap_alloc_new wr _);rw[hw8,hX3];have HX8:=Lh hx8;have HI8:=Lh (HI.out.to hb8);have HP8:=Lh ((HI.out.box HX7.out hnex).to hb8);have HB18:Hid (Below w1.heap.size w1 w8):=Lh (HB1q.out.trans (hb8.mono HB1q.out.size));have hne3:some X3≠u9.ownBlock:=fun e=>by have:=(HI.out.ow.lt X3 e.symm).2;omega
     have hneX:some X1≠u9.ownBlock:=HI.out.off (by have:=HX1z.out;have:=HB47.out.size;omega) hnex
     have HWC:Hid (∀q (hq:q<ws.length),∃b5 o5,A5=some ⟨b5,o5,none⟩∧some b5≠u9.ownBlock∧b5<w8.heap.size∧w8.cell? ⟨b5,o5+q*4,none⟩=some (.string ws[q].s)):=Lh (fun q hq=>by
      obtain⟨b5,o5,hA,-,hlt,-,h1,-⟩:=Qct HS5.out hq
      have h2:=(HA5.out _ hA).1
      dsimp only at h2
      have hn5:some b5≠(Value.slice Av L.length cv).ownBlock:=fun e=>by have:=(HVB.out b5 e.symm).2;have:=HZ4.out;omega
      have hl7:b5<w7.heap.size:=(by have:=HZ5.out;omega)
      have h3:w7.cell? ⟨b5,o5+q*4,none⟩=some (.string ws[q].s):=(HB7.out.cell (p:=⟨b5,o5+q*4,none⟩) hlt).trans h1
      have h4:=HI.out.cell (o5+q*4) hl7 hn5 h3
      have hl8:b5<wr.heap.size:=(by have:=HB7q.out.size;omega)
      exact⟨b5,o5,hA,HI.out.off hl7 hn5,by have:=hb8.size;omega,(hb8.cell (p:=⟨b5,o5+q*4,none⟩) hl8).trans h4⟩)
     have HJL:=Lh hjl;have HRO:=Lh (fun r hr=>(HI.out.ow.lt r hr).1);have HZ8:Hid (w1.heap.size≤w8.heap.size):=Lh HB18.out.size;have HF17:=Lh HB17.out.size;clear hX3 hw8 hb8 hx8 g0 g1 g2 g3;have y0:=HX8.out.cell 0 rfl;go_wp2_with fail;obtain⟨wi,rfl⟩:∃wi:World,wi=wr:=⟨_,rfl⟩;obtain⟨vo,rfl⟩:∃vo:Value,vo=u9:=⟨_,rfl⟩;go_loopw [9,17,18] (fun v la nn wz=>∃q:Nat,f≤q∧q≤U∧nn=.int .i64 (q:Int)∧(∃lv,la=.int .i64 lv∧LastI (opTo sl gs P ws X q) lv q)∧Hid (MkI w1.heap.size w8 vo.ownBlock v ((L++F)++Qde sl gs br P ws X j q) wz)) (fun _ _ nn _=>U-(intOf nn).toNat)
     case atStart=>exact⟨f,Nat.le_refl _,hfU,rfl,⟨-2,rfl,by
      have h1:=(mkTo_start (sl:=sl) (gs:=gs) (br:=br) (p:=P) (ws:=ws) (x:=X) (i:=j)).2
      rw[HXF.out.2.1] at h1
      rw[h1]
      exact⟨by omega,by rw[if_neg (by decide)];omega⟩⟩,Lh (by
      have h1:=(mkTo_start (sl:=sl) (gs:=gs) (br:=br) (p:=P) (ws:=ws) (x:=X) (i:=j)).1
      rw[HXF.out.2.1] at h1
      rw[h1,List.append_nil]
      exact MkI.start HI8.out.ow)⟩
     case round=>
      obtain⟨q,hfq,hqU,rfl,⟨lv,rfl,hla⟩,HI3⟩:=hrel;have HB18z:Hid (Below w1.heap.size w8 wr):=Lh (HI3.out.below HZ8.out HRO.out);have HB1z:Hid (Below w1.heap.size w1 wr):=Lh (HB18.out.trans HB18z.out);have HBz:Hid (Below w.heap.size w wr):=Lh (HB1.out.trans (HB1z.out.mono HB1.out.size));have y1:=(HI3.out.box HX8.out hne3).cell 1 rfl;have q2:=(HI3.out.box HP8.out hneX).cell 2 rfl;have q3:=(HI3.out.box HP8.out hneX).cell 3 rfl;have HLA:=Lh hla;clear hla;by_cases hqI:q<U
      ·have hq1:(q:Int)<(U:Int):=by omega
       have hqw:q<ws.length:=(by rw[HNW.out];omega);have hws:=HWS.out _ (List.getElem_mem hqw);have hgd:ws.getD q noW=ws[q]:=(by rw[List.getD_eq_getElem?_getD,qG hqw];rfl);obtain⟨G,hG⟩:∃G,gset (sl.filter (onP en ve (q:Int)))=G:=⟨_,rfl⟩;obtain⟨bm,hbm⟩:∃bm,may G gs=bm:=⟨_,rfl⟩
       have HGR:Hid (∀W,Below w.heap.size w W→Calls Tryz.prog 29 #[.slice As ns cs,.int .i64 en,.int .i64 ve,.int .i64 (q:Int)] W fun r w'=>r=.returned (.int .i64 (G:Int))∧Below W.heap.size W w'):=Lh fun W hW=>by
        have:=groups_any As cs ns sl en ve (q:Int) W (HSL.out W hW) HNS.out HSZ.out HG.out;rwa [hG] at this
       have HMY:Hid (∀W,Below w.heap.size w W→Calls Tryz.prog 30 #[.slice As ns cs,.int .i64 gs,.int .i64 en,.int .i64 ve,.int .i64 (q:Int)] W fun r w'=>r=.returned (.bool bm)∧Below W.heap.size W w'):=Lh fun W hW=>by
        have:=may_any As cs ns sl gs en ve (q:Int) W (HSL.out W hW) HNS.out HSZ.out HG.out;rwa [hG,hbm] at this
       have HTL:Hid (tellB sl gs P.entry P.ver (q:Int)=(decide (G≠0)&&bm)):=Lh (by rw[HPe.out.1,HPe.out.2.1];unfold tellB seeB;rw[hG,hbm]);clear hG hbm;have hpos:=HXF.out.1;have hfe:X.fr.toNat≤q:=(by rw[HXF.out.2.1];exact hfq);by_cases h0:G=0
       ·have hG0:((G:Int)==0)=true:=by rw[h0];rfl
        have HT:=Qec (sl:=sl) (gs:=gs) (br:=br) (p:=P) (ws:=ws) (x:=X) (i:=j) hpos hfe (by rw[HTL.out,h0];rfl);have HTN:=Lh HT;clear HT hpos hfe hgd hws
        go_wp2_with (first|(go_at_call 29;refine(HGR.out wr HBz.out).mono ?_;rintro e wa ⟨rfl,hb⟩;have HI4:=Lh (HI3.out.to hb);clear hb)|fail)
        go_roundw
        case rel=>exact⟨q+1,by omega,by omega,by go_num,⟨lv,rfl,by
         rw[HTN.out.2]
         refine⟨HLA.out.1,?_⟩
         have:=HLA.out.2
         rw[if_neg (by decide)]
         split at this<;>omega⟩,by rw[HTN.out.1];exact HI4⟩
        case measure=>(first|(simp[intOf];done)|(simp[intOf];omega))
       ·have hG0:((G:Int)==0)=false:=beq_eq_false_iff_ne.2 (by omega);have hd0:decide (G≠0)=true:=decide_eq_true h0;rw[hd0,Bool.true_and] at HTL;clear hd0;cases bm with
        |false=>
         have HT:=Qec (sl:=sl) (gs:=gs) (br:=br) (p:=P) (ws:=ws) (x:=X) (i:=j) hpos hfe HTL.out;have HTN:=Lh HT;clear HT hpos hfe hgd hws
         go_wp2_with (first|(go_at_call 29;refine(HGR.out wr HBz.out).mono ?_;rintro e wa ⟨rfl,hb⟩;have HI4:=Lh (HI3.out.to hb);have HBa:=Lh (HBz.out.trans (hb.mono HBz.out.size));have r2:=(HI4.out.box HP8.out hneX).cell 2 rfl;have r3:=(HI4.out.box HP8.out hneX).cell 3 rfl;clear hb q2 q3)|(go_at_call 30;refine(HMY.out wa HBa.out).mono ?_;rintro e wb ⟨rfl,hb⟩;have HI5:=Lh (HI4.out.to hb);clear hb r2 r3)|fail)
         go_roundw
         case rel=>exact⟨q+1,by omega,by omega,by go_num,⟨lv,rfl,by
          rw[HTN.out.2]
          refine⟨HLA.out.1,?_⟩
          have:=HLA.out.2
          rw[if_neg (by decide)]
          split at this<;>omega⟩,by rw[HTN.out.1];exact HI5⟩
         case measure=>(first|(simp[intOf];done)|(simp[intOf];omega))
        |true=>
         obtain⟨b5,o5,hA5,hn5,hl5,hc5w⟩:=HWC.out q hqw;obtain⟨s5,hs5⟩:∃s,ws[q].s=s:=⟨_,rfl⟩;rw[hs5] at hc5w hws;cases hop:opTo sl gs P ws X q with
         |true=>
          obtain⟨C,xm,hC1,hC2,hC3,hC4⟩:=mkTo_more (sl:=sl) (gs:=gs) (br:=br) (p:=P) (ws:=ws) (x:=X) (i:=j) hpos hfe HTL.out hop HWS.out;rw[hgd,hs5] at hC2;have hlv:((lv==(q:Int)-1):Bool)=true:=by
           have:=HLA.out.2;rw[hop,if_pos rfl] at this;exact beq_iff_eq.2 this
          have hs1:s5.size≤1000:=hws;subst hA5;clear hpos hfe hgd hws hop hs5
          go_upto_region 16 with(first|(go_at_call 29;refine(HGR.out wr HBz.out).mono ?_;rintro e wa ⟨rfl,hb⟩;have HI4:=Lh (HI3.out.to hb);have HBa:=Lh (HBz.out.trans (hb.mono HBz.out.size));have r2:=(HI4.out.box HP8.out hneX).cell 2 rfl;have r3:=(HI4.out.box HP8.out hneX).cell 3 rfl;clear hb q2 q3)|(go_at_call 30;refine(HMY.out wa HBa.out).mono ?_;rintro e wb ⟨rfl,hb⟩;have HI5:=Lh (HI4.out.to hb);clear hb r2 r3)|fail)
          have hic:=HI5.out;rw[hC1,←List.append_assoc] at hic;have HIC:=Lh hic;clear hic;have hcw:=HI5.out.cell (o5+q*4) hl5 hn5 hc5w;have hlb:b5<wb.heap.size:=(by have:=HI5.out.ks.size;omega);obtain⟨gb,cG,hv9,hgl,hgc,hgf,hgn,hgx,-⟩:=MkI.set (s:=xm.words++(⟨#[32]⟩++s5)) HIC.out;subst hv9;obtain⟨nm,hnm⟩:∃nq,(L++F++C).length=nq:=⟨_,rfl⟩;have HNM:=Lh hnm;have hnmb:nm≤400000000000:=by
           have h1:=HFL.out;rw[←hnm,qA];have h2:C.length≤(Qde sl gs br P ws X j U).length:=Nat.le_trans (by have:=congrArg List.length hC1;rw[qA] at this;omega) (mkTo_mono (sl:=sl) (gs:=gs) (br:=br) (p:=P) (ws:=ws) (x:=X) (i:=j) HXF.out.1 (by rw[HXF.out.2.1];exact hfq) hqU);omega
          rw[hnm] at hgc hgf hgn ⊢;have HC3:=Lh hC3;have HC2:=Lh hC2;have hws2:xm.words.size≤1100000000:=(by omega);obtain⟨xw,hxw⟩:∃s,xm.words=s:=⟨_,rfl⟩;have HXW:=Lh hxw;rw[hxw] at hgc hws2;clear hnm hC1 hC2 hC3 hC4 hxw hc5w HI4;refine Qaf [] (fun _=>SP.any) 16 (by kernel_rfl) (by kernel_rfl) ?_;intro T _ gg hg hgm;have e0:∀d,(gg d).cell? ⟨gb,nm*5+4,none⟩=some (.string xw):=fun d=>((hg d).cell (p:=⟨gb,nm*5+4,none⟩) hgl).trans hgc
          have e1:∀d,(gg d).cell? ⟨b5,o5+q*4,none⟩=some (.string s5):=fun d=>((hg d).cell (p:=⟨b5,o5+q*4,none⟩) hlb).trans hcw
          have hnmc:(nm:Int)+1≤(cG:Int):=(by omega);(repeat(refine Qac (by rfl) fun Kq hq=>?_;go_big_quiet_step (fail);refine wpQuiet_nil (hq _ ?_);clear hq Kq));refine QaP 1 (by rfl) (by rfl) (fun d hG=>?_);have HId:=Lh (HIC.out.to (hg d));have f0:=e0 d;clear hG hg hgm e0 e1 hcw hgc hgf;generalize gg d=wx at*;clear gg;obtain⟨gb',cG',hv9,hgl',hgc',hgf',-,-,hset⟩:=MkI.set (s:=xm.words++(⟨#[32]⟩++s5)) HId.out;cases hv9;rw[HNM.out,HXW.out] at hgc';rw[HNM.out] at hgf';rw[HNM.out,HXW.out] at hset
          have HIN3:Hid (MkI w1.heap.size w8 vo.ownBlock (.slice (some ⟨gb,0,none⟩) (nm+1) cG) (L++F++Qde sl gs br P ws X j (q+1)) (wx.setCell ⟨gb,nm*5+4,none⟩ (.string (xw++(⟨#[32]⟩++s5))))):=Lh (by
           have h1:=hset
           rw[HC2.out,←List.append_assoc,HXW.out]
           exact h1)
          clear hset;refine Qao (i:=16) (oi:=_) rfl (by kernel_rfl) (by rfl) (fun K hK=>?_);go_simp;refine hK _ _ ?_;clear hK K;(try go_frame);refine wpAny_done (by kernel_rfl) ?_ _;unfold Exit.then;go_wp2_with fail;go_roundw
          case rel=>exact⟨q+1,by omega,by omega,by go_num,⟨q,rfl,by
           rw[HC3.out]
           exact⟨by omega,by rw[if_pos rfl];omega⟩⟩,HIN3⟩
          case measure=>(first|(simp[intOf];done)|(simp[intOf];omega))
         |false=>
          have HT:=mkTo_new (sl:=sl) (gs:=gs) (br:=br) (p:=P) (ws:=ws) (x:=X) (i:=j) hpos hfe HTL.out hop;rw[hgd,hs5] at HT;have HTN:=Lh HT;have hlv:((lv==(q:Int)-1):Bool)=false:=by
           have:=HLA.out.2;rw[hop,if_neg (by decide)] at this;exact beq_eq_false_iff_ne.2 (by omega)
          have hs1:s5.size≤1000:=hws;subst hA5;clear HT hpos hfe hgd hws hop hs5
          go_upto_region 17 with(first|(go_at_call 29;refine(HGR.out wr HBz.out).mono ?_;rintro e wa ⟨rfl,hb⟩;have HI4:=Lh (HI3.out.to hb);have HBa:=Lh (HBz.out.trans (hb.mono HBz.out.size));have r2:=(HI4.out.box HP8.out hneX).cell 2 rfl;have r3:=(HI4.out.box HP8.out hneX).cell 3 rfl;clear hb q2 q3)|(go_at_call 30;refine(HMY.out wa HBa.out).mono ?_;rintro e wb ⟨rfl,hb⟩;have HI5:=Lh (HI4.out.to hb);clear hb r2 r3)|fail)
          have hcw:=HI5.out.cell (o5+q*4) hl5 hn5 hc5w;have hlb:b5<wb.heap.size:=(by have:=HI5.out.ks.size;omega);have hx1w:X1<wb.heap.size:=(by have:=HI5.out.ks.size;have:=HP8.out.lt;omega);obtain⟨A9,c9,rfl,-⟩:=HI5.out.ow.form;obtain⟨nm,hnm⟩:∃nq,(L++F++Qde sl gs br P ws X j q).length=nq:=⟨_,rfl⟩;have HNM:=Lh hnm;have hnmb:nm≤400000000000:=by
           have h1:=HFL.out;rw[←hnm,qA];have h2:=mkTo_mono (sl:=sl) (gs:=gs) (br:=br) (p:=P) (ws:=ws) (x:=X) (i:=j) HXF.out.1 (by rw[HXF.out.2.1];exact hfq) hqU;omega
          rw[hnm] at HI5 ⊢;clear hnm hc5w HI4;have HPW:=Lh (HI5.out.box HP8.out hneX);refine Qaf [13] (fun i=>if i=13 then SP.rp wb.heap.size [(⟨br,a,z,(j:Int)+1,s5⟩:MarkP)] else SP.any) 14 (by kernel_rfl) (by kernel_rfl) ?_;intro T _ gg hg hgm;have e0:∀d,(gg d).cell? ⟨X1,0,none⟩=some (.int .i64 a):=fun d=>(HPW.out.to (hg d)).cell 0 rfl
          have e1:∀d,(gg d).cell? ⟨X1,1,none⟩=some (.int .i64 z):=fun d=>(HPW.out.to (hg d)).cell 1 rfl
          have e2:∀d,(gg d).cell? ⟨b5,o5+q*4,none⟩=some (.string s5):=fun d=>((hg d).cell (p:=⟨b5,o5+q*4,none⟩) hlb).trans hcw
          (repeat(refine Qac (by rfl) fun Kq hq=>?_;go_big_quiet_step (fail);refine wpQuiet_nil (hq _ ?_);clear hq Kq));refine Qah (by rfl) (by rfl) (fun d hG K Q hK=>?_) (fun v d hG hp Kr hr=>?_)
          ·go_simp;exact hK _ _ (bR.alloc nL _) (rp_lit (hg d).size (by exact mark_rep (⟨br,(a:Int),(z:Int),(j:Int)+1,s5⟩:MarkP)))
          obtain⟨⟨Az,cz,rfl⟩,-⟩:=(show(∃A c,v=.slice A [(⟨br,a,z,(j:Int)+1,s5⟩:MarkP)].length c)∧_ from hp);(try clear hp);clear hG;go_frame;refine hr _ ?_;clear hr Kr;refine QaP 2 (by rfl) (by rfl) (fun d hG=>?_);have H13:Hid (Rep.R (gg d) (Up wb.heap.size) [.slice Az [(⟨br,a,z,(j:Int)+1,s5⟩:MarkP)].length cz] [(⟨br,a,z,(j:Int)+1,s5⟩:MarkP)]):=Lh (show(∃A c,_=Value.slice A [(⟨br,a,z,(j:Int)+1,s5⟩:MarkP)].length c)∧Rep.R (gg d) (Up wb.heap.size) [.slice Az [(⟨br,a,z,(j:Int)+1,s5⟩:MarkP)].length cz] [(⟨br,a,z,(j:Int)+1,s5⟩:MarkP)] from hG 13).2;have HId:=Lh (HI5.out.to (hg d));have HZd:=Lh (hg d).size;have HLT:=Lh HI5.out.ow.lt;clear hG hg hgm e0 e1 e2 hcw;generalize gg d=wx at*;clear gg
          have HSl:Hid (Sl wx (Up wb.heap.size) Az cz [(⟨br,a,z,(j:Int)+1,s5⟩:MarkP)]):=Lh (by
           obtain⟨A,c,e,hs,-⟩:=H13.out
           cases e
           exact hs)
          have HBx:Hid (w1.heap.size≤wx.heap.size):=Lh (by have:=HZ8.out;have:=HId.out.ks.size;omega);refine Qao (i:=14) (oi:=_) rfl (by kernel_rfl) (by rfl) (fun K hK=>?_);refine wp_cat (α:=MarkP) _ (.tmp 96) (.tmp 109) 51 rfl w1.heap.size 61 (.agg #[.int .i64 0,.int .i64 0,.int .i64 0,.int .i64 0,.string ⟨#[]⟩]) 48 Tryz.underlying51 mark_info rfl (show 0<5 by decide) _ (L++F++Qde sl gs br P ws X j q) rfl HId.out.ow Az cz 1 [(⟨br,a,z,(j:Int)+1,s5⟩:MarkP)] rfl rfl (Up wb.heap.size) HSl.out (fun i (hi:wb.heap.size≤i) _ e=>by have:=(HLT.out i e.symm).2;omega) (by rw[HNM.out];omega) (by rw[HNM.out];omega) HBx.out ?_;intro v' w' ho' hg' hv'
          have HIN3:Hid (MkI w1.heap.size w8 vo.ownBlock v' (L++F++Qde sl gs br P ws X j (q+1)) w'):=Lh (by
           rw[HTN.out.1,←List.append_assoc,HPe.out.2.2.1,HPe.out.2.2.2.1]
           exact HId.out.grown ho' hg' hv')
          refine hK _ _ ?_;clear hK K ho' hg' hv' HId HSl H13;(try simp only[Act.put,sA0]);refine Qao (i:=15) (oi:=_) rfl (by kernel_rfl) (by rfl) (fun K hK=>?_);go_simp;refine hK _ _ ?_;clear hK K;(try go_frame);refine wpAny_done (by kernel_rfl) ?_ _;unfold Exit.then;go_wp2_with fail;go_roundw
          case rel=>exact⟨q+1,by omega,by omega,by go_num,⟨q,rfl,by
           rw[HTN.out.2]
           exact⟨by omega,by rw[if_pos rfl];omega⟩⟩,HIN3⟩
          case measure=>(first|(simp[intOf];done)|(simp[intOf];omega))
      ·obtain rfl:q=U:=by omega
       have hq1:¬(q:Int)<(q:Int):=(by omega);have HME:=Lh (mkTo_end (sl:=sl) (gs:=gs) (br:=br) (p:=P) (ws:=ws) (x:=X) (i:=j) HXF.out.1)
       have HIN2:Hid (MkI w1.heap.size w7 (Value.slice Av L.length cv).ownBlock u9 (L++QaE sl gs br P ws 0 (ls.take (j+1))) wr):=Lh (by
        have h1:=HI8.out.trans HI3.out
        have h2:=HME.out
        rw[HXF.out.2.2] at h2
        rw[HMK.out,←List.append_assoc,←h2]
        exact h1)
       go_wp2_with fail;go_roundw;(case rel=>exact⟨j+1,by have:=HJL.out;omega,by go_num,HIN2⟩);case measure=>(have:=HJL.out;first|(simp[intOf];done)|(simp[intOf];omega))
    ·obtain rfl:j=nl:=by omega
     have hjI:¬(j:Int)<(j:Int):=(by omega);have ek:ls.take j=ls:=List.take_of_length_le (by rw[HNLS.out];exact Nat.le_refl _);rw[ek] at HI;have HON:Hid (Own wr w1.heap.size 61 u9 (QaR l sl gs br (ps.take (k+1)))):=Lh (by rw[HTK.out,HPL.out];exact HI.out.ow);clear ek;go_wp2_with fail;go_roundw;(case rel=>exact⟨k+1,by have:=HKL.out;omega,by go_num,HON,HB1q.out⟩);case measure=>(have:=HKL.out;first|(simp[intOf];done)|(simp[intOf];omega))
  ·obtain rfl:k=n:=by omega
   have hki:¬(k:Int)<(k:Int):=(by omega);have ek:ps.take k=ps:=List.take_of_length_le (by rw[HN.out];exact Nat.le_refl _);rw[ek] at HO;have HSP:Hid (QaQ m h l sl gs br=QaR l sl gs br ps):=Lh (by unfold QaQ;rw[HPS.out]);clear ek hb;go_wp2_with fail;go_ret;exact⟨_,rfl,by rw[HSP.out];exact HO.out.re (by have:=HB1.out.size;omega),HBW.out⟩
theorem lxS_sl {w:World}{b:Nat}(h:ABox w b 118 [.int .i64 5,.int .i64 7,.int .i64 1,.int .i64 3,.int .i64 3]){S:Nat→Prop}(hS:S b):Sl w S (some ⟨b,0,none⟩) 1 lxS:=
 Sl.block (l:=lxS) h hS (by decide) (fun i hi=>by
  obtain rfl:i=0:=by simpa[lxS] using hi
  exact⟨rfl,show(⟨5,7,1,3,3⟩:Seal).ok from by refine⟨?_,?_,?_,?_,?_⟩<;>exact⟨by decide,by decide⟩⟩)
theorem lxN_sl {w:World}{b:Nat}(h:ABox w b 118 [.int .i64 5,.int .i64 7,.int .i64 2,.int .i64 3,.int .i64 2]){S:Nat→Prop}(hS:S b):Sl w S (some ⟨b,0,none⟩) 1 [(⟨5,7,2,3,2⟩:Seal)]:=
 Sl.block (l:=[(⟨5,7,2,3,2⟩:Seal)]) h hS (by decide) (fun i hi=>by
  obtain rfl:i=0:=by simpa using hi
  exact⟨rfl,show(⟨5,7,2,3,2⟩:Seal).ok from by refine⟨?_,?_,?_,?_,?_⟩<;>exact⟨by decide,by decide⟩⟩)
structure LvI (W1 w:World)(b0 bb:Nat)(Ab:Option Addr)(cb:Nat):Prop where
 b:Below W1.heap.size W1 w
 tx:ABox w (b0+1+1) 36 [.slice (some ⟨b0+1,0,none⟩) 1 1,.slice none 0 0]
 ts:Sl w (fun b=>b<w.heap.size) (some ⟨b0+1,0,none⟩) 1 [lxW]
 bx:ABox w bb 25 [.int .i64 500,.int .i64 10,.slice Ab lx.length cb]
 sm:SM w Ab cb lx
theorem LvI.to {W1 w w':World}{b0 bb:Nat}{Ab:Option Addr}{cb:Nat}(h:LvI W1 w b0 bb Ab cb)(hb:Below w.heap.size w w'):LvI W1 w' b0 bb Ab cb:=⟨h.b.trans (hb.mono h.b.size),h.tx.to hb,h.ts.to hb,h.bx.to hb,h.sm.to hb⟩
theorem LvI.ok {W1 w:World}{b0 bb:Nat}{Ab:Option Addr}{cb:Nat}(h:LvI W1 w b0 bb Ab cb):BookOk w 500 10 Ab cb lx:=⟨h.sm.t.1,h.sm.s,lx_ok.2.1,lx_ok.2.2,⟨by decide,by decide⟩,Nat.le_trans lx_len (by decide)⟩
theorem lx_heq:∀s∈lx,s.texts.length=s.vers.length:=by decide
theorem lxS_g:∀s∈lxS,0≤s.g∧s.g<16:=by decide
theorem lxM_g:∀s∈lxM,0≤s.g∧s.g<16:=by decide
theorem ok_lxW:∀x∈QaF ⟨[lxW],[]⟩,x.s.size≤1000:=by decide
theorem lx_short:Qbp [lxW]∧Qbp []:=by decide +kernel
theorem lx_add {w:World}{A1:Option Addr}(hT:Tabs w)(ht:Sl w (fun b=>b<w.heap.size) A1 1 [lxW]):
 Calls Tryz.prog 61 #[.agg #[.int .i64 500,.int .i64 10,.slice none 0 0],.int .i64 5,.int .i64 7,.agg #[.slice A1 1 1,.slice none 0 0]] w fun e w'=>∃A c,e=.returned (.tuple #[.agg #[.int .i64 500,.int .i64 10,.slice A lx.length c],.int .i64 0])∧SM w' A c lx∧Below w.heap.size w w':=by
 have e1:([]++[(⟨5,false,[7],[⟨[lxW],[]⟩]⟩:SectP)])=lx:=rfl;have h:=add_ok none 0 [] 500 10 5 7 A1 none 1 0 [lxW] [] w hT.1 (Sl.nil _ _ _ _ (by simp[maxLen])) lx_ok.1.1 lx_ok.1.2 ⟨by decide,by decide⟩ ht (Sl.nil _ _ _ _ (by simp[maxLen])) lx_short.1 lx_short.2 lx_find (by decide) (by decide) lx_wrong (by decide) (by rw[e1];exact Nat.le_trans lx_len (by decide));rw[e1] at h;refine h.mono ?_;rintro x V2 ⟨u,rfl,ho,hb⟩;obtain⟨Ab,cb,rfl,hs,-⟩:=ho.sm hT hb;exact⟨Ab,cb,by rw[fits_ok (Nat.le_trans lx_len (by decide))],hs,hb⟩
set_option maxRecDepth 100000 in
theorem lives32_any (W1:World)(hT:Tabs W1):Calls Tryz.prog 20 #[] W1 fun e w'=>e=.returned (.bool true)∧Below W1.heap.size W1 w':=by
 have HT:=Lh hT;clear hT;go_enter Tryz.func20,Tryz.ntmps20;go_upto_region 2 with(fail);obtain⟨b0,hb0⟩:∃q,W1.heap.size=q:=⟨_,rfl⟩;obtain⟨W2,hW2⟩:∃W2,((W1.alloc (.cells #[.string ⟨#[111,110,101]⟩,.string ⟨#[]⟩,.int .i64 0,.int .i64 0,.string ⟨#[116,119,111]⟩,.string ⟨#[]⟩,.int .i64 0,.int .i64 0,.string ⟨#[116,104,114,101,101]⟩,.string ⟨#[]⟩,.int .i64 0,.int .i64 0,.string ⟨#[102,111,117,114]⟩,.string ⟨#[]⟩,.int .i64 0,.int .i64 0] 66)).alloc (.cells #[.slice (some ⟨W1.heap.size,0,none⟩) 4 4] 110)).alloc (.cells #[.slice (some ⟨W1.heap.size+1,0,none⟩) 1 1,.slice none 0 0] 36)=W2:=⟨_,rfl⟩;rw[hW2];have hba:Below W1.heap.size W1 W2:=by rw[←hW2];exact((bR.alloc nL _).alloc (by simp) _).alloc (by simp;omega) _
 have hx0:ABox W2 W1.heap.size 66 [.string ⟨#[111,110,101]⟩,.string ⟨#[]⟩,.int .i64 0,.int .i64 0,.string ⟨#[116,119,111]⟩,.string ⟨#[]⟩,.int .i64 0,.int .i64 0,.string ⟨#[116,104,114,101,101]⟩,.string ⟨#[]⟩,.int .i64 0,.int .i64 0,.string ⟨#[102,111,117,114]⟩,.string ⟨#[]⟩,.int .i64 0,.int .i64 0]:=by rw[←hW2];exact(Below.heap_alloc _ _ _ (by first|(simp;done)|(simp;omega))).trans ((Below.heap_alloc _ _ _ (by simp)).trans (heap_alloc_new W1 _))
 have hx1:ABox W2 (W1.heap.size+1) 110 [.slice (some ⟨W1.heap.size,0,none⟩) 4 4]:=by rw[←hW2];exact(Below.heap_alloc _ _ _ (by simp)).trans (Qak (by simp))
 have hx2:ABox W2 (W1.heap.size+1+1) 36 [.slice (some ⟨W1.heap.size+1,0,none⟩) 1 1,.slice none 0 0]:=by rw[←hW2];exact Qak (by simp)
 have hts:=lx_sl hx0 hx1;rw[hb0] at hts hx2 ⊢;have HBA:=Lh hba;have HTX:=Lh hx2;have HTS:=Lh hts;have HT2:=Lh (HT.out.to hba);clear hW2 hba hx0 hx1 hx2 hts hb0;have y0:=HTX.out.cell 0 rfl;have y1:=HTX.out.cell 1 rfl;have HAD:=Lh (lx_add HT2.out HTS.out)
 go_upto_region 3 with(first|(go_at_call 61;refine HAD.out.mono ?_;rintro x V2 ⟨Ab,cb,rfl,hs,hb⟩;have HSM:=Lh hs;have HB2:=Lh hb;clear hs hb y0 y1 HAD)|fail)
 obtain⟨W3,hW3⟩:∃W3,V2.alloc (.cells #[.int .i64 500,.int .i64 10,.slice Ab lx.length cb] 25)=W3:=⟨_,rfl⟩;obtain⟨bb,hbb⟩:∃q,V2.heap.size=q:=⟨_,rfl⟩
 have HI:Hid (LvI W1 W3 b0 bb Ab cb):=Lh (by
  have h1:Below V2.heap.size V2 W3:=(by rw[←hW3];exact bR.alloc nL _)
  have h2:Below W2.heap.size W2 W3:=HB2.out.trans (h1.mono HB2.out.size)
  exact⟨HBA.out.trans (h2.mono HBA.out.size),HTX.out.to h2,HTS.out.to h2,by rw[←hW3,←hbb];exact heap_alloc_new V2 _,HSM.out.to h1⟩)
 (try rw[hW3]);(try rw[hbb]);clear hW3 hbb HBA HTX HTS HT2 HSM HB2;have q0:=HI.out.bx.cell 0 rfl;have q1:=HI.out.bx.cell 1 rfl;have q2:=HI.out.bx.cell 2 rfl
 go_upto_region 4 with(first|(go_at_call 26;refine(QbI HI.out.ok).mono ?_;rintro e W4 ⟨v,R,rfl,ho,-,hb⟩;rw[Qds] at ho;obtain⟨Ap,cp,rfl,hs⟩:=ho.plain.sl;have HP4:=Lh hs;have HI4:=Lh (HI.out.to hb);clear ho hs hb q0 q1 q2 HI)|fail)
 go_upto_region 5 with(fail);obtain⟨W5,hW5⟩:∃W5,W4.alloc (.cells #[.int .i64 5,.int .i64 7,.int .i64 1,.int .i64 3,.int .i64 3] 118)=W5:=⟨_,rfl⟩;obtain⟨bs,hbs⟩:∃q,W4.heap.size=q:=⟨_,rfl⟩;have h1:Below W4.heap.size W4 W5:=by rw[←hW5];exact bR.alloc nL _
 have HI5:=Lh (HI4.out.to h1);have HP5:=Lh (HP4.out.to h1);have HX5:Hid (ABox W5 bs 118 [.int .i64 5,.int .i64 7,.int .i64 1,.int .i64 3,.int .i64 3]):=Lh (by rw[←hW5,←hbs];exact heap_alloc_new W4 _);rw[hW5,hbs];clear hW5 hbs h1 HI4 HP4;have HOW0:Hid (Own (W5.alloc (.cells #[] 118)) W5.heap.size 118 (.slice (some ⟨W5.heap.size,0,none⟩) 0 0) ([]:List Seal)):=Lh (Own.made W5 W5.heap.size _ nL);have HB50:Hid (Below W5.heap.size W5 (W5.alloc (.cells #[] 118))):=Lh (bR.alloc nL _)
 go_upto_region 6 with(first|(at_builtin;refine QaH (α:=Seal) _ rfl (.tmp 29) (.tmp 30) 26 rfl W5.heap.size 118 (.agg #[.int .i64 0,.int .i64 0,.int .i64 0,.int .i64 0,.int .i64 0]) 40 Tryz.underlying26 QbX rfl (by decide) _ [] rfl HOW0.out (some ⟨bs,0,none⟩) 1 1 lxS rfl rfl (fun b=>b=bs) (lxS_sl (HX5.out.to HB50.out) rfl) (fun i hi _ e=>by have h1:=HX5.out.lt;have h2:some i=some W5.heap.size:=e;have h3:=Option.some.inj h2;have h4:i=bs:=hi;omega) (by decide) (by decide) HB50.out.size ?_;intro v2 w2 hown2 hg2 hat2;have HB51:Hid (Below W5.heap.size W5 w2):=Lh (HB50.out.grown hg2 HB50.out.size (fun r hr=>by have h2:some W5.heap.size=some r:=hr;have h3:=Option.some.inj h2;omega));obtain⟨A2,c2,rfl,-⟩:=hown2.form;have HOW1:Hid (Own w2 W5.heap.size 118 (.slice A2 1 c2) lxS):=Lh hown2;clear hown2 hg2 hat2)|(at_builtin;refine QaH (α:=Seal) _ rfl (.tmp 31) (.tmp 33) 26 rfl W5.heap.size 118 (.agg #[.int .i64 0,.int .i64 0,.int .i64 0,.int .i64 0,.int .i64 0]) 40 Tryz.underlying26 QbX rfl (by decide) _ lxS rfl (HOW1.out.alloc _) (some ⟨w2.heap.size,0,none⟩) 1 1 [(⟨5,7,2,3,2⟩:Seal)] rfl rfl (fun b=>b=w2.heap.size) (lxN_sl (heap_alloc_new w2 _) rfl) (fun i hi _ e=>by have h4:i=w2.heap.size:=hi;have:=(HOW1.out.lt i e.symm).2;omega) (by decide) (by decide) (by have:=HB51.out.size;simp;omega) ?_;intro v3 w3 hown3 hg3 hat3;have HB52:Hid (Below W5.heap.size W5 w3):=Lh ((HB51.out.alloc HB51.out.size _).grown hg3 (by have:=HB51.out.size;simp;omega) (fun r hr=>(HOW1.out.lt r hr).1));obtain⟨A3,c3,rfl,-⟩:=hown3.form;have HOW2:Hid (Own w3 W5.heap.size 118 (.slice A3 2 c3) lxM):=Lh hown3;clear hown3 hg3 hat3)|fail)
 have e1:lxS.length+1=2:=rfl;rw[e1];clear e1;have HI6:=Lh (HI5.out.to HB52.out);have HP6:=Lh (HP5.out.to HB52.out);have HX6:=Lh (HX5.out.to HB52.out)
 have HM6:Hid (Sl w3 (fun b=>b<w3.heap.size) A3 c3 lxM):=Lh (by
  obtain⟨A,c,e,h⟩:=HOW2.out.sl
  cases e
  exact h)
 clear HI5 HP5 HX5 HOW0 HOW1 HOW2 HB50 HB51 HB52;obtain⟨bp,op,A1,c1,A4,c4,rfl,-,hlp,p0,p1,p2,p3,p4,p5,hs1,hs2⟩:=pageS_at HP6.out (k:=0) (by decide);obtain⟨bl,ol,Ag,cg,An,cn,rfl,-,hll,l0,l1,l2,l3,hsg,hsn⟩:=Qbz hs1 (k:=0) (by decide)
 have HPC:Hid (∀W,Below w3.heap.size w3 W→W.cell? ⟨bp,op,none⟩=some (.int .i64 1)∧W.cell? ⟨bp,op+1,none⟩=some (.int .i64 0)∧W.cell? ⟨bp,op+2,none⟩=some (.int .i64 5)∧W.cell? ⟨bp,op+3,none⟩=some (.int .i64 7)∧W.cell? ⟨bp,op+4,none⟩=some (.slice (some ⟨bl,ol,none⟩) 1 c1)∧W.cell? ⟨bp,op+5,none⟩=some (.slice A4 0 c4)∧ W.cell? ⟨bl,ol,none⟩=some (.int .i64 0)∧W.cell? ⟨bl,ol+1,none⟩=some (.int .i64 4)∧W.cell? ⟨bl,ol+2,none⟩=some (.slice Ag 3 cg)∧W.cell? ⟨bl,ol+3,none⟩=some (.slice An 0 cn)):=Lh fun W hW=>
  ⟨(hW.cell (p:=⟨bp,op,none⟩) hlp).trans p0,(hW.cell (p:=⟨bp,op+1,none⟩) hlp).trans p1,(hW.cell (p:=⟨bp,op+2,none⟩) hlp).trans p2,(hW.cell (p:=⟨bp,op+3,none⟩) hlp).trans p3,(hW.cell (p:=⟨bp,op+4,none⟩) hlp).trans p4,(hW.cell (p:=⟨bp,op+5,none⟩) hlp).trans p5,(hW.cell (p:=⟨bl,ol,none⟩) hll).trans l0,(hW.cell (p:=⟨bl,ol+1,none⟩) hll).trans l1,(hW.cell (p:=⟨bl,ol+2,none⟩) hll).trans l2,(hW.cell (p:=⟨bl,ol+3,none⟩) hll).trans l3⟩
 clear p0 p1 p2 p3 p4 p5 l0 l1 l2 l3 hs1 hs2 hsg hsn HP6;have p4:=(HPC.out w3 bR).2.2.2.2.1;go_upto_region 8 with(fail);clear p4;have HWD:=Lh (fun(s:ByteArray)=>Qbq s w3 HI6.out.sm.t.1);have HBX:=Lh (fun(n:Int) (hn:I64 n) (W:World) (hW:Below w3.heap.size w3 W)=>Qdn n hn W (HI6.out.sm.t.to hW));have HE:=Lh lx_box
 go_upto_region 9 with(first|(go_at_call 33;refine(Qbq _ w3 HI6.out.sm.t.1).mono ?_;rintro e w' ⟨rfl,rfl⟩)|(go_at_call 32;refine(Qdn _ (QbW _) w3 HI6.out.sm.t).mono ?_;rintro e W7 ⟨rfl,hb⟩;rw[HE.out.1];have HI7:=Lh (HI6.out.to hb);have HB7:=Lh hb;clear hb)|fail)
 go_upto_region 10 with(first|(go_at_call 33;refine(Qbq _ W7 HI7.out.sm.t.1).mono ?_;rintro e w' ⟨rfl,rfl⟩)|(go_at_call 32;refine(Qdn _ (QbW _) W7 HI7.out.sm.t).mono ?_;rintro e W8 ⟨rfl,hb⟩;rw[HE.out.2];have HI8:=Lh (HI7.out.to hb);have HB8:=Lh (HB7.out.trans (hb.mono HB7.out.size));clear hb)|fail)
 have HPV:=Lh (lx_good.pv);have HPL:Hid ((Qae 500 10 lx).length≤1048576):=Lh (Nat.le_trans lx_len (by decide));have HSS:Hid (∀W,Below w3.heap.size w3 W→Sl W (fun b=>b<W.heap.size) (some ⟨bs,0,none⟩) 1 lxS):=Lh fun W hW=>lxS_sl (HX6.out.to hW) (by have:=HX6.out.lt;have:=hW.size;show bs<W.heap.size;omega)
 have HSH:Hid (∀W,Below w3.heap.size w3 W→LvI W1 W b0 bb Ab cb→Calls Tryz.prog 16 #[.agg #[.int .i64 500,.int .i64 10,.slice Ab lx.length cb],.slice (some ⟨bs,0,none⟩) 1 1] W fun r W'=>∃v,r=.returned v∧Own W' W.heap.size 46 v [(⟨⟨#[49]⟩,[⟨#[111,110,101,32,91,50,54,93,32,91,51,54,93,32,102,111,117,114]⟩],[]⟩:SheetP)]∧Below W.heap.size W W'):=Lh fun W hW hl=>by
  have:=sheets_any (some ⟨bs,0,none⟩) 1 1 lxS hl.ok hl.sm.t lx_heq HPV.out HPL.out (HSS.out W hW) rfl (by decide) lxS_g;rwa [lx_sheets] at this
 have HAX:Hid (∀W,Below w3.heap.size w3 W→LvI W1 W b0 bb Ab cb→Calls Tryz.prog 22 #[.agg #[.int .i64 500,.int .i64 10,.slice Ab lx.length cb],.int .i64 2,.slice (some ⟨bs,0,none⟩) 1 1,.int .i64 8] W fun r W'=>∃v,r=.returned v∧Own W' W.heap.size 61 v [(⟨2,1,0,1,⟨#[116,119,111,32,116,104,114,101,101]⟩⟩:MarkP)]∧Below W.heap.size W W'):=Lh fun W hW hl=>by
  have:=Qdz 2 8 (some ⟨bs,0,none⟩) 1 1 lxS hl.ok hl.sm.t lx_heq HPV.out HPL.out (by rw[lx_annex];decide) (HSS.out W hW) rfl (by decide) lxS_g;rwa [lx_annex] at this
 have HAY:Hid (∀W,Below w3.heap.size w3 W→LvI W1 W b0 bb Ab cb→Calls Tryz.prog 22 #[.agg #[.int .i64 500,.int .i64 10,.slice Ab lx.length cb],.int .i64 2,.slice (some ⟨bs,0,none⟩) 1 1,.int .i64 4] W fun r W'=>∃A c,r=.returned (.slice A 0 c)∧Below W.heap.size W W'):=Lh fun W hW hl=>by
  have h:=Qdz 2 4 (some ⟨bs,0,none⟩) 1 1 lxS hl.ok hl.sm.t lx_heq HPV.out HPL.out (by rw[lx_annex0];decide) (HSS.out W hW) rfl (by decide) lxS_g;rw[lx_annex0] at h;refine h.mono ?_;rintro r W' ⟨v,rfl,ho,hb⟩;obtain⟨A,c,rfl,-⟩:=ho.form;exact⟨A,c,rfl,hb⟩
 have q0:=HI8.out.bx.cell 0 rfl;have q1:=HI8.out.bx.cell 1 rfl;have q2:=HI8.out.bx.cell 2 rfl
 go_upto_region 11 with(first|(go_at_call 16;refine(HSH.out W8 HB8.out HI8.out).mono ?_;rintro r W9 ⟨v,rfl,ho,hb⟩;obtain⟨A9,c9,rfl,hs,-,hc9,-⟩:=ho.parts;have HS9:=Lh hs;have HI9:=Lh (HI8.out.to hb);have HB9:=Lh (HB8.out.trans (hb.mono HB8.out.size));clear ho hs hb q0 q1 q2)|fail)
 have q0:=HI9.out.bx.cell 0 rfl;have q1:=HI9.out.bx.cell 1 rfl;have q2:=HI9.out.bx.cell 2 rfl
 go_upto_region 12 with(first|(go_at_call 22;refine(HAX.out W9 HB9.out HI9.out).mono ?_;rintro r W10 ⟨v,rfl,ho,hb⟩;obtain⟨A10,c10,rfl,hs,-,hc10,-⟩:=ho.parts;have HS10:=Lh hs;have HI10:=Lh (HI9.out.to hb);have HB10:=Lh (HB9.out.trans (hb.mono HB9.out.size));have HT9:=Lh (HS9.out.to hb);clear ho hs hb q0 q1 q2)|fail)
 obtain⟨b9,o9,A11,c11,A12,c12,rfl,-,hl9,s0,s1,s2,hs11,hs12⟩:=Qd8 HT9.out (k:=0) (by decide);obtain⟨b11,o11,rfl,-,hl11,-,s3⟩:=str_at hs11 (k:=0) (by decide);obtain⟨b10,o10,rfl,-,hl10,m0,m1,m2,m3,m4⟩:=mark_at HS10.out (k:=0) (by decide);have HMC:Hid (∀W,Below W10.heap.size W10 W→(W.cell? ⟨b9,o9,none⟩=some (.string ⟨#[49]⟩)∧W.cell? ⟨b9,o9+1,none⟩=some (.slice (some ⟨b11,o11,none⟩) 1 c11)∧W.cell? ⟨b11,o11,none⟩=some (.string ⟨#[111,110,101,32,91,50,54,93,32,91,51,54,93,32,102,111,117,114]⟩))∧W.cell? ⟨b10,o10,none⟩=some (.int .i64 2)∧W.cell? ⟨b10,o10+1,none⟩=some (.int .i64 1)∧W.cell? ⟨b10,o10+2,none⟩=some (.int .i64 0)∧W.cell? ⟨b10,o10+3,none⟩=some (.int .i64 1)∧W.cell? ⟨b10,o10+4,none⟩=some (.string ⟨#[116,119,111,32,116,104,114,101,101]⟩)):=Lh fun W hW=>
  ⟨⟨(hW.cell (p:=⟨b9,o9,none⟩) hl9).trans s0,(hW.cell (p:=⟨b9,o9+1,none⟩) hl9).trans s1,(hW.cell (p:=⟨b11,o11,none⟩) hl11).trans s3⟩,(hW.cell (p:=⟨b10,o10,none⟩) hl10).trans m0,(hW.cell (p:=⟨b10,o10+1,none⟩) hl10).trans m1,(hW.cell (p:=⟨b10,o10+2,none⟩) hl10).trans m2,(hW.cell (p:=⟨b10,o10+3,none⟩) hl10).trans m3,(hW.cell (p:=⟨b10,o10+4,none⟩) hl10).trans m4⟩
 clear s0 s1 s2 s3 m0 m1 m2 m3 m4 hs11 hs12 HS9 HS10 HT9;have q0:=HI10.out.bx.cell 0 rfl;have q1:=HI10.out.bx.cell 1 rfl;have q2:=HI10.out.bx.cell 2 rfl;have s1:=(HMC.out W10 bR).1.2.1
 go_upto_region 14 with(first|(go_at_call 22;refine(HAY.out W10 HB10.out HI10.out).mono ?_;rintro r W11 ⟨A13,c13,rfl,hb⟩;have HI11:=Lh (HI10.out.to hb);have HB11:=Lh (HB10.out.trans (hb.mono HB10.out.size));have HBx:=Lh hb;clear hb q0 q1 q2 s1)|fail)
 have m0:=(HMC.out W11 HBx.out).2.1;have m1:=(HMC.out W11 HBx.out).2.2.1;have m2:=(HMC.out W11 HBx.out).2.2.2.1;have m3:=(HMC.out W11 HBx.out).2.2.2.2.1;have m4:=(HMC.out W11 HBx.out).2.2.2.2.2;go_upto_region 15 with(fail);clear m0 m1 m2 m3 m4;have hj1:([111,110,101,32,91,50,54,93,32,91,51,54,93,32,102,111,117,114]==((⟨#[111,110,101,32]⟩:ByteArray)++(⟨#[91,50,54,93]⟩:ByteArray)++(⟨#[32]⟩:ByteArray)++(⟨#[91,51,54,93]⟩:ByteArray)++(⟨#[32,102,111,117,114]⟩:ByteArray)).toList)=true:=by decide +kernel
 have hj2:([111,110,101,32,116,119,111,32,91,51,54,93,32,102,111,117,114]==((⟨#[111,110,101,32,116,119,111,32]⟩:ByteArray)++(⟨#[91,51,54,93]⟩:ByteArray)++(⟨#[32,102,111,117,114]⟩:ByteArray)).toList)=true:=by decide +kernel
 have HLN:Hid (∀W,Below w3.heap.size w3 W→LvI W1 W b0 bb Ab cb→Calls Tryz.prog 24 #[.agg #[.int .i64 1,.int .i64 0,.int .i64 5,.int .i64 7,.slice (some ⟨bl,ol,none⟩) 1 c1,.slice A4 0 c4],.agg #[.int .i64 0,.int .i64 4,.slice Ag 3 cg,.slice An 0 cn],.agg #[.slice (some ⟨b0+1,0,none⟩) 1 1,.slice none 0 0],.slice A3 2 c3,.int .i64 8] W fun r W'=>r=.returned (.string ⟨#[111,110,101,32,116,119,111,32,91,51,54,93,32,102,111,117,114]⟩)∧Below W.heap.size W W'):=Lh fun W hW hl=>by
  have h:=QdP 1 0 5 7 (some ⟨bl,ol,none⟩) A4 1 c1 0 c4 0 4 Ag An 3 cg 0 cn (some ⟨b0+1,0,none⟩) none 1 0 [lxW] [] A3 c3 2 lxM 8 W hl.ts (Sl.nil _ _ _ _ (by simp[maxLen])) (by decide) (by decide) (by decide) ok_lxW (HM6.out.to hW) rfl (by decide) lxM_g hl.sm.t (by decide) (by decide);rw[show QaF ⟨[lxW],[]⟩=lxW from rfl,lx_line] at h;exact h
 refine Qaf [35] (fun i=>if i=35 then SP.val (.string ⟨#[111,110,101,32,116,119,111,32,91,51,54,93,32,102,111,117,114]⟩) else SP.any) 42 (by kernel_rfl) (by kernel_rfl) ?_;intro T _ g hg hgm;have e0:∀d,(g d).cell? ⟨b9,o9,none⟩=some (.string ⟨#[49]⟩):=fun d=>(HMC.out (g d) (HBx.out.trans ((hg d).mono HBx.out.size))).1.1
 have e1:∀d,(g d).cell? ⟨b9,o9+1,none⟩=some (.slice (some ⟨b11,o11,none⟩) 1 c11):=fun d=>(HMC.out (g d) (HBx.out.trans ((hg d).mono HBx.out.size))).1.2.1
 have e2:∀d,(g d).cell? ⟨b11,o11,none⟩=some (.string ⟨#[111,110,101,32,91,50,54,93,32,91,51,54,93,32,102,111,117,114]⟩):=fun d=>(HMC.out (g d) (HBx.out.trans ((hg d).mono HBx.out.size))).1.2.2
 have HPD:Hid (∀d,Below w3.heap.size w3 (g d)):=Lh fun d=>HB11.out.trans ((hg d).mono HB11.out.size)
 have p0:∀d,(g d).cell? ⟨bp,op,none⟩=some (.int .i64 1):=fun d=>(HPC.out (g d) (HPD.out d)).1
 have p1:∀d,(g d).cell? ⟨bp,op+1,none⟩=some (.int .i64 0):=fun d=>(HPC.out (g d) (HPD.out d)).2.1
 have p2:∀d,(g d).cell? ⟨bp,op+2,none⟩=some (.int .i64 5):=fun d=>(HPC.out (g d) (HPD.out d)).2.2.1
 have p3:∀d,(g d).cell? ⟨bp,op+3,none⟩=some (.int .i64 7):=fun d=>(HPC.out (g d) (HPD.out d)).2.2.2.1
 have p4:∀d,(g d).cell? ⟨bp,op+4,none⟩=some (.slice (some ⟨bl,ol,none⟩) 1 c1):=fun d=>(HPC.out (g d) (HPD.out d)).2.2.2.2.1
 have p5:∀d,(g d).cell? ⟨bp,op+5,none⟩=some (.slice A4 0 c4):=fun d=>(HPC.out (g d) (HPD.out d)).2.2.2.2.2.1
 have l0:∀d,(g d).cell? ⟨bl,ol,none⟩=some (.int .i64 0):=fun d=>(HPC.out (g d) (HPD.out d)).2.2.2.2.2.2.1
 have l1:∀d,(g d).cell? ⟨bl,ol+1,none⟩=some (.int .i64 4):=fun d=>(HPC.out (g d) (HPD.out d)).2.2.2.2.2.2.2.1
 have l2:∀d,(g d).cell? ⟨bl,ol+2,none⟩=some (.slice Ag 3 cg):=fun d=>(HPC.out (g d) (HPD.out d)).2.2.2.2.2.2.2.2.1
 have l3:∀d,(g d).cell? ⟨bl,ol+3,none⟩=some (.slice An 0 cn):=fun d=>(HPC.out (g d) (HPD.out d)).2.2.2.2.2.2.2.2.2
 have t0:∀d,(g d).cell? ⟨b0+1+1,0,none⟩=some (.slice (some ⟨b0+1,0,none⟩) 1 1):=fun d=>(HI11.out.to (hg d)).tx.cell 0 rfl
 have t1:∀d,(g d).cell? ⟨b0+1+1,1,none⟩=some (.slice none 0 0):=fun d=>(HI11.out.to (hg d)).tx.cell 1 rfl
 (repeat(refine Qac (by rfl) fun Kq hq=>?_;go_big_quiet_step (fail);refine wpQuiet_nil (hq _ ?_);clear hq Kq));refine Qah (by rfl) (by rfl) (fun d hG K Q hK=>?_) (fun v d hG hp Kr hr=>?_)
 ·go_simp;go_at_call 24;refine(HLN.out (g d) (HPD.out d) (HI11.out.to (hg d))).mono ?_;rintro e W1 ⟨rfl,hb1⟩;go_simp;exact hK _ _ hb1 (rfl)
 have hp:v=.string ⟨#[111,110,101,32,116,119,111,32,91,51,54,93,32,102,111,117,114]⟩:=hp;subst hp;(try clear hp);clear hG;go_frame;refine hr _ ?_;clear hr Kr;(repeat(refine Qac (by rfl) fun Kq hq=>?_;go_big_quiet_step (fail);refine wpQuiet_nil (hq _ ?_);clear hq Kq));refine QcZ (by kernel_rfl) (fun d hG=>?_) _;have HBd:=Lh (hg d);clear hG hg hgm;unfold Exit.then;go_wp2_with fail;go_ret;exact⟨rfl,HI11.out.b.trans (HBd.out.mono HI11.out.b.size)⟩
def TxtQ (P:Nat→Prop)(o:Option TextP)(e:Ending)(W':World):Prop:=∃Aa ca Ab cb,e=.returned (.tuple #[.agg #[.slice Aa (o.getD ⟨[],[]⟩).a.length ca,.slice Ab (o.getD ⟨[],[]⟩).b.length cb],.bool o.isSome])∧Sl W' P Aa ca (o.getD ⟨[],[]⟩).a∧Sl W' P Ab cb (o.getD ⟨[],[]⟩).b
theorem TxtQ.no {P:Nat→Prop}{o:Option TextP}(W':World)(h:o=none):TxtQ P o (.returned (.tuple #[.agg #[.slice none 0 0,.slice none 0 0],.bool false])) W':=by
 subst h;exact⟨none,0,none,0,rfl,Sl.nil _ _ _ _ (Nat.zero_le _),Sl.nil _ _ _ _ (Nat.zero_le _)⟩
theorem TxtQ.yes {P:Nat→Prop}{o:Option TextP}{z:TextP}{W':World}{Aa Ab:Option Addr}{ca cb:Nat}(h:o=some z)(h1:Sl W' P Aa ca z.a)(h2:Sl W' P Ab cb z.b):TxtQ P o (.returned (.tuple #[.agg #[.slice Aa z.a.length ca,.slice Ab z.b.length cb],.bool true])) W':=by
 subst h;exact⟨Aa,ca,Ab,cb,rfl,h1,h2⟩
set_option maxRecDepth 100000 in
theorem rtextAtQ_any {m h:Int}{A:Option Addr}{c:Nat}{l:List SectP}{w:World}(P:Nat→Prop)(hs:Sl w P A c l)(hsh:Qbe l)(heq:∀s∈l,s.texts.length=s.vers.length)(entry ver:Int):
 Calls Tryz.prog 18 #[.agg #[.int .i64 m,.int .i64 h,.slice A l.length c],.int .i64 entry,.int .i64 ver] w fun e W'=>TxtQ P (QbT l entry ver) e W'∧Below w.heap.size w W':=by
 obtain⟨wb,hwb⟩:∃wb,(w.alloc (.cells #[.int .i64 m,.int .i64 h,.slice A l.length c] 25)).alloc (.cells #[.slice none 0 0,.slice none 0 0] 36)=wb:=⟨_,rfl⟩;have hba:Below w.heap.size w wb:=by rw[←hwb];exact(bR.alloc nL _).alloc (by simp) _
 have hx0:ABox wb w.heap.size 25 [.int .i64 m,.int .i64 h,.slice A l.length c]:=by rw[←hwb];exact(Below.heap_alloc _ _ _ (by simp)).trans (heap_alloc_new w _)
 have hx1:ABox wb (w.heap.size+1) 36 [.slice none 0 0,.slice none 0 0]:=by rw[←hwb];exact Qak (by simp)
 have HF:=Lh (rfind_any A c l m h entry wb ((hs.mono (S':=fun b=>b<w.heap.size) fun _ _ hl=>hl).to hba) (by have:=hsh.1;omega));have hsz:wb.heap.size=w.heap.size+2:=by rw[←hwb];simp
 have HZ:=Lh hsz;have HB:=Lh hba;have HX0:=Lh hx0;have HX1:=Lh hx1;have HS:=Lh hs;have HQ:=Lh heq;have HSH:=Lh hsh;have hlc:l.length≤c:=hs.1;have x0:=hx0.cell 0 rfl;have x1:=hx0.cell 1 rfl;have x2:=hx0.cell 2 rfl;clear hba hx0 hx1 hsz hs heq hsh;go_enter Tryz.func18,Tryz.ntmps18;go_upto_region 1 with(fail);(try rw[hwb]);clear hwb
 go_upto_region 2 with(first|(go_at_call 57;refine HF.out.mono ?_;rintro e w1 ⟨rfl,hb1⟩;have HB1:=Lh hb1;clear hb1 x0 x1 x2)|fail)
 have HX1w:=Lh (HX1.out.to HB1.out);have HX0w:=Lh (HX0.out.to HB1.out);have HBA:Hid (Below w.heap.size w w1):=Lh (HB.out.trans (HB1.out.mono HB.out.size));have HZ1:Hid (w.heap.size+2≤w1.heap.size):=Lh (by have:=HB1.out.size;have:=HZ.out;omega);clear HF HB1 HX1 HX0 HB;rcases QbM l entry with hf|⟨k,hk,hf,hfe⟩
 ·have HN:=Lh (QcW (v:=ver) hf);rw[hf];have z0:=HX1w.out.cell 0 rfl;have f0:=HX1w.out.fz 0;have z1:=(HX1w.out.set 0 (.slice none 0 0)).cell 1 rfl;have f1:=(HX1w.out.set 0 (.slice none 0 0)).fz 1;clear hf;go_wp2_with fail
  exact bodyPost_ret (v:=.tuple #[.agg #[.slice none 0 0,.slice none 0 0],.bool false]) (Qai Tryz.results18 _ _ (w.heap.size+1) _ #[.slice none 0 0,.slice none 0 0] (0,0) _ rfl (abox2 HX1w.out _ _) Tryz.underlying36 rfl (by kernel_rfl)) rfl ⟨TxtQ.no _ HN.out,QbD HBA.out (by omega) _ _⟩
 ·obtain⟨b,o,Ag,cg,An,cn,rfl,-,hbl,e0,e1,e2,e3,hg1,hn1,-⟩:=QbO HS.out hk;have hqe:=HQ.out _ (List.getElem_mem hk);have hshx:=HSH.out.2 _ (List.getElem_mem hk);obtain⟨x,hx⟩:∃x,l[k]=x:=⟨_,rfl⟩;rw[hx] at e0 e1 e2 e3 hg1 hn1 hqe hshx;have HNO:Hid (Qdf x.vers ver= -1→QbT l entry ver=none):=Lh (fun h1=>QcV hf hk hx (by omega) h1);have HYES:Hid (∀j (hj:j<x.texts.length),Qdf x.vers ver=(j:Int)→QbT l entry ver=some x.texts[j]):=Lh (fun j hj h1=>QdM hf hk hx hj h1);have k0:=(HBA.out.cell (p:=⟨b,o+k*4,none⟩) hbl).trans e0;have k1:=(HBA.out.cell (p:=⟨b,o+k*4+1,none⟩) hbl).trans e1;have k2:=(HBA.out.cell (p:=⟨b,o+k*4+2,none⟩) hbl).trans e2;have k3:=(HBA.out.cell (p:=⟨b,o+k*4+3,none⟩) hbl).trans e3;have x2:=HX0w.out.cell 2 rfl;have HG1:=Lh hg1;have HN1:=Lh hn1;have HV:Hid (x.texts.length=x.vers.length∧x.vers.length≤1048576):=Lh ⟨hqe,hshx.1⟩;obtain⟨nv,hnv⟩:∃nv,x.vers.length=nv:=⟨_,rfl⟩;obtain⟨nt,hnt⟩:∃nt,x.texts.length=nt:=⟨_,rfl⟩;have HNV:=Lh hnv;have HNT:=Lh hnt;have hgc:nv≤cg:=(by rw[←hnv];exact hg1.1);have hnc:nt≤cn:=(by rw[←hnt];exact hn1.1);have hn9:nv≤1048576:=(by rw[←hnv];exact hshx.1);have HTV:Hid (nt=nv):=Lh (by rw[←hnv,←hnt];exact hqe);rw[hnv] at k2;rw[hnt] at k3;rw[hf];have hkI:¬(k:Int)<0:=(by omega);have hkL:(k:Int)<(l.length:Int):=(by omega);clear hf hfe e0 e1 e2 e3 hg1 hn1 hqe hshx hx hnv hnt;obtain⟨O,hO⟩:∃O,w1.heap.size=O:=⟨_,rfl⟩;obtain⟨ws,hws⟩:∃ws,w1.alloc (.cells #[.int .i64 x.entry,.bool x.frozen,.slice Ag nv cg,.slice An nt cn] 74)=ws:=⟨_,rfl⟩;have hbs:Below w1.heap.size w1 ws:=(by rw[←hws];exact bR.alloc nL _);have hxs:ABox ws O 74 [.int .i64 x.entry,.bool x.frozen,.slice Ag nv cg,.slice An nt cn]:=(by rw[←hws,←hO];exact heap_alloc_new w1 _);have HXS:=Lh hxs;have HX1s:=Lh (HX1w.out.to hbs);have HBs:Hid (Below w.heap.size w ws):=Lh (HBA.out.trans (hbs.mono HBA.out.size));go_upto_region 5 with(fail);(try rw[hO]);(try rw[hws]);clear hO hws hbs hxs k0 k1 k2 k3 x2;go_wp2_with fail;go_loopw [10] (fun i wr=>∃q:Nat,q≤nv∧i=.int .i64 q∧Hid (∀i (hi:i<x.vers.length),i<q→x.vers[i]≠ver)∧wr=ws) (fun i _=>nv-(intOf i).toNat);(case atStart=>exact⟨0,Nat.zero_le _,rfl,Lh (fun i hi h=>absurd h (Nat.not_lt_zero _)),rfl⟩);case round=>
   obtain⟨q,hq,rfl,HN,rfl⟩:=hrel;obtain⟨ws,rfl⟩:∃ws:World,ws=wr:=⟨_,rfl⟩;have s2:=HXS.out.cell 2 rfl;have s3:=HXS.out.cell 3 rfl;by_cases hlt:q<nv
   ·have hql:q<x.vers.length:=by rw[HNV.out];exact hlt
    have hqt:q<x.texts.length:=(by rw[HNT.out,HTV.out];exact hlt);obtain⟨bv,ov,rfl,-,-,-,ev⟩:=Qbr (HG1.out.keep (Kept.all HBs.out) HBs.out.size) hql;obtain⟨y,hy⟩:∃y,x.vers[q]=y:=⟨_,rfl⟩;rw[hy] at ev;have HY:=Lh hy;have hqI:(q:Int)<(nv:Int):=(by omega);have hqT:(q:Int)<(nt:Int):=(by rw[HTV.out];exact hqI);clear hy;by_cases hyv:y=ver
    ·have hyes:=HYES.out q hqt (idxP_hit hql (by rw[HY.out];exact hyv) (fun i hi=>HN.out i (by omega) hi));obtain⟨bt,ot,Aa,ca,Ab,cb,rfl,-,hbt,t0',t1',ht1,ht2⟩:=Qcn HN1.out hqt;obtain⟨z,hz⟩:∃z,x.texts[q]=z:=⟨_,rfl⟩;rw[hz] at t0' t1' ht1 ht2 hyes;have t0:=(HBs.out.cell (p:=⟨bt,ot+q*2,none⟩) hbt).trans t0';have t1:=(HBs.out.cell (p:=⟨bt,ot+q*2+1,none⟩) hbt).trans t1';have HBF:=Lh (QbD HBs.out (b:=w.heap.size+1) (by omega) (.slice Aa z.a.length ca) (.slice Ab z.b.length cb));have HYE:=Lh hyes;have HT1:=Lh ht1;have HT2:=Lh ht2;have z0:=HX1s.out.cell 0 rfl;have f0:=HX1s.out.fz 0;have z1:=(HX1s.out.set 0 (.slice Aa z.a.length ca)).cell 1 rfl;have f1:=(HX1s.out.set 0 (.slice Aa z.a.length ca)).fz 1;clear hz hyes ht1 ht2 t0' t1' hbt;go_wp2_with fail
     refine bodyPost_ret (v:=.tuple #[.agg #[.slice Aa z.a.length ca,.slice Ab z.b.length cb],.bool true]) (Qai Tryz.results18 _ _ (w.heap.size+1) _ #[.slice Aa z.a.length ca,.slice Ab z.b.length cb] (0,0) _ rfl (abox2 HX1s.out _ _) Tryz.underlying36 rfl (by kernel_rfl)) rfl ⟨TxtQ.yes HYE.out (HT1.out.keep (Kept.all HBF.out) HBF.out.size) (HT2.out.keep (Kept.all HBF.out) HBF.out.size),HBF.out⟩
    ·have HN2:Hid (∀i (hi:i<x.vers.length),i<q+1→x.vers[i]≠ver):=Lh (fun i hi h=>by
      by_cases hik:i=q
      ·subst hik;rw[HY.out];exact hyv
      ·exact HN.out i hi (by omega))
     go_wp2_with fail;go_roundw;(case rel=>exact⟨q+1,by omega,by go_num,HN2,trivial⟩);case measure=>simp[intOf];omega
   ·have HNN:Hid (QbT l entry ver=none):=Lh (HNO.out (Qb1 fun i hi=>HN.out i hi (by have:=HNV.out;omega)));obtain rfl:q=nv:=by omega
    have z0:=HX1s.out.cell 0 rfl;have f0:=HX1s.out.fz 0;have z1:=(HX1s.out.set 0 (.slice none 0 0)).cell 1 rfl;have f1:=(HX1s.out.set 0 (.slice none 0 0)).fz 1;have hqI:¬(q:Int)<(q:Int):=(by omega);go_wp2_with fail
    exact bodyPost_ret (v:=.tuple #[.agg #[.slice none 0 0,.slice none 0 0],.bool false]) (Qai Tryz.results18 _ _ (w.heap.size+1) _ #[.slice none 0 0,.slice none 0 0] (0,0) _ rfl (abox2 HX1s.out _ _) Tryz.underlying36 rfl (by kernel_rfl)) rfl ⟨TxtQ.no _ HNN.out,QbD HBs.out (by omega) _ _⟩
set_option maxRecDepth 100000 in
theorem Qd9 {m h:Int}{A:Option Addr}{c:Nat}{l:List SectP}{w:World}(hs:Sl w (fun b=>b<w.heap.size) A c l)(hsh:Qbe l)(heq:∀s∈l,s.texts.length=s.vers.length)(entry ver:Int):
 Calls Tryz.prog 27 #[.agg #[.int .i64 m,.int .i64 h,.slice A l.length c],.int .i64 entry,.int .i64 ver] w fun e W'=>TxtQ (Up w.heap.size) (QbT l entry ver) e W'∧Below w.heap.size w W':=by
 obtain⟨wb,hwb⟩:∃wb,(w.alloc (.cells #[.int .i64 m,.int .i64 h,.slice A l.length c] 25)).alloc (.cells #[.slice none 0 0,.slice none 0 0] 36)=wb:=⟨_,rfl⟩;have hba:Below w.heap.size w wb:=by rw[←hwb];exact(bR.alloc nL _).alloc (by simp) _
 have hx0:ABox wb w.heap.size 25 [.int .i64 m,.int .i64 h,.slice A l.length c]:=by rw[←hwb];exact(Below.heap_alloc _ _ _ (by simp)).trans (heap_alloc_new w _)
 have hx1:ABox wb (w.heap.size+1) 36 [.slice none 0 0,.slice none 0 0]:=by rw[←hwb];exact Qak (by simp)
 have HF:=Lh (Qdm A c l m h entry wb (hs.to hba) (by have:=hsh.1;omega));have hsz:wb.heap.size=w.heap.size+2:=by rw[←hwb];simp
 have HZ:=Lh hsz;have HB:=Lh hba;have HX0:=Lh hx0;have HX1:=Lh hx1;have HS:=Lh hs;have HQ:=Lh heq;have HSH:=Lh hsh;have hlc:l.length≤c:=hs.1;have x0:=hx0.cell 0 rfl;have x1:=hx0.cell 1 rfl;have x2:=hx0.cell 2 rfl;clear hba hx0 hx1 hsz hs heq hsh;go_enter Tryz.func27,Tryz.ntmps27;go_upto_region 1 with(fail);(try rw[hwb]);clear hwb
 go_upto_region 2 with(first|(go_at_call 69;refine HF.out.mono ?_;rintro e w1 ⟨rfl,hb1⟩;have HB1:=Lh hb1;clear hb1 x0 x1 x2)|fail)
 have HX1w:=Lh (HX1.out.to HB1.out);have HX0w:=Lh (HX0.out.to HB1.out);have HBA:Hid (Below w.heap.size w w1):=Lh (HB.out.trans (HB1.out.mono HB.out.size));have HZ1:Hid (w.heap.size+2≤w1.heap.size):=Lh (by have:=HB1.out.size;have:=HZ.out;omega);clear HF HB1 HX1 HX0 HB;rcases QbM l entry with hf|⟨k,hk,hf,hfe⟩
 ·have HN:=Lh (QcW (v:=ver) hf);rw[hf];have z0:=HX1w.out.cell 0 rfl;have f0:=HX1w.out.fz 0;have z1:=(HX1w.out.set 0 (.slice none 0 0)).cell 1 rfl;have f1:=(HX1w.out.set 0 (.slice none 0 0)).fz 1;clear hf;go_wp2_with fail
  exact bodyPost_ret (v:=.tuple #[.agg #[.slice none 0 0,.slice none 0 0],.bool false]) (Qai Tryz.results27 _ _ (w.heap.size+1) _ #[.slice none 0 0,.slice none 0 0] (0,0) _ rfl (abox2 HX1w.out _ _) Tryz.underlying36 rfl (by kernel_rfl)) rfl ⟨TxtQ.no _ HN.out,QbD HBA.out (by omega) _ _⟩
 ·obtain⟨b,o,Ag,cg,An,cn,rfl,-,hbl,e0,e1,e2,e3,hg1,hn1,-⟩:=QbO HS.out hk;have hqe:=HQ.out _ (List.getElem_mem hk);have hshx:=HSH.out.2 _ (List.getElem_mem hk);obtain⟨x,hx⟩:∃x,l[k]=x:=⟨_,rfl⟩;rw[hx] at e0 e1 e2 e3 hg1 hn1 hqe hshx;have HNO:Hid (Qdf x.vers ver= -1→QbT l entry ver=none):=Lh (fun h1=>QcV hf hk hx (by omega) h1);have HYES:Hid (∀j (hj:j<x.texts.length),Qdf x.vers ver=(j:Int)→QbT l entry ver=some x.texts[j]):=Lh (fun j hj h1=>QdM hf hk hx hj h1);have k2:=(HBA.out.cell (p:=⟨b,o+k*4+2,none⟩) hbl).trans e2;have k3:=(HBA.out.cell (p:=⟨b,o+k*4+3,none⟩) hbl).trans e3;have x2:=HX0w.out.cell 2 rfl;have HIX:=Lh (QcN Ag cg x.vers ver w1 (hg1.to HBA.out) (by have:=hshx.1;omega));have HN1:=Lh hn1;have HSX:=Lh hshx;have HV:Hid (x.texts.length=x.vers.length∧x.vers.length≤1048576):=Lh ⟨hqe,hshx.1⟩;have hnc:x.texts.length≤cn:=hn1.1;rw[hf];have hkI:¬(k:Int)<0:=(by omega);have hkL:(k:Int)<(l.length:Int):=(by omega);clear hf hfe e0 e1 e2 e3 hg1 hn1 hqe hshx hx
  go_upto_region 5 with(first|(go_at_call 70;refine HIX.out.mono ?_;rintro e w2 ⟨rfl,rfl⟩)|fail)
  by_cases hin:ver∈x.vers
  ·have hj:x.vers.findIdx (fun x=>decide (x=ver))<x.vers.length:=List.findIdx_lt_length_of_exists ⟨ver,hin,by simp⟩;have hix:Qdf x.vers ver=(x.vers.findIdx (fun x=>decide (x=ver)):Int):=(by unfold Qdf;rw[if_pos hj]);obtain⟨j,hje⟩:∃j,x.vers.findIdx (fun x=>decide (x=ver))=j:=⟨_,rfl⟩;rw[hje] at hj hix;have hqt:j<x.texts.length:=(by rw[HV.out.1];exact hj);have hyes:=HYES.out j hqt hix;rw[hix];obtain⟨bt,ot,Aa,ca,Ab,cb,rfl,-,hbt,t0',t1',ht1,ht2⟩:=Qcn HN1.out hqt;have hsx:=HSX.out.2.2 _ (List.getElem_mem hqt);obtain⟨z,hz⟩:∃z,x.texts[j]=z:=⟨_,rfl⟩;rw[hz] at t0' t1' ht1 ht2 hyes hsx;have t0:=(HBA.out.cell (p:=⟨bt,ot+j*2,none⟩) hbt).trans t0';have t1:=(HBA.out.cell (p:=⟨bt,ot+j*2+1,none⟩) hbt).trans t1';have HYE:=Lh hyes;have HBT:=Lh (QcK Aa Ab ca cb z.a z.b _ (ht1.to HBA.out) (ht2.to HBA.out) hsx.1 hsx.2);have hjI:¬(j:Int)<0:=(by omega);have hjT:(j:Int)<(x.texts.length:Int):=(by omega);clear hz hyes ht1 ht2 t0' t1' hbt hix hje hj hin hsx
   go_wp2_with (first
    |(go_at_call 71;refine HBT.out.mono ?_;rintro e w3 ⟨va,vb,rfl,hr,hb3⟩;obtain⟨Ag1,Ag2,hvv,⟨A5,c5,e5,hs5,-⟩,⟨A6,c6,e6,hs6,-⟩⟩:=hr;cases hvv;cases e5;cases e6;have HS5:=Lh hs5;have HS6:=Lh hs6;have HB3:=Lh hb3;clear hs5 hs6 hb3 k2 k3 x2 t0 t1;have z0:=(HX1w.out.to HB3.out).cell 0 rfl;have f0:=(HX1w.out.to HB3.out).fz 0;have z1:=((HX1w.out.to HB3.out).set 0 (.slice A5 z.a.length c5)).cell 1 rfl;have f1:=((HX1w.out.to HB3.out).set 0 (.slice A5 z.a.length c5)).fz 1)
    |fail)
   have HBF:=Lh (QbD (HBA.out.trans (HB3.out.mono HBA.out.size)) (b:=w.heap.size+1) (by omega) (.slice A5 z.a.length c5) (.slice A6 z.b.length c6))
   have hkp:∀i,Up w1.heap.size i→((w3.setCell ⟨w.heap.size+1,0,none⟩ (.slice A5 z.a.length c5)).setCell ⟨w.heap.size+1,1,none⟩ (.slice A6 z.b.length c6)).heap[i]? =w3.heap[i]? :=fun i (hi:w1.heap.size≤i)=>by
    have:=HZ1.out;exact(Qaa _ _ _ _ (by omega)).trans (Qaa _ _ _ _ (by omega))
   refine bodyPost_ret (v:=.tuple #[.agg #[.slice A5 z.a.length c5,.slice A6 z.b.length c6],.bool true]) (Qai Tryz.results27 _ _ (w.heap.size+1) _ #[.slice A5 z.a.length c5,.slice A6 z.b.length c6] (0,0) _ rfl (abox2 (HX1w.out.to HB3.out) _ _) Tryz.underlying36 rfl (by kernel_rfl)) rfl ⟨TxtQ.yes HYE.out ((HS5.out.keep (fun i hi _=>hkp i hi) (by simp)).mono fun i (hi:w1.heap.size≤i) _=>by show w.heap.size≤i;have:=HZ1.out;omega) ((HS6.out.keep (fun i hi _=>hkp i hi) (by simp)).mono fun i (hi:w1.heap.size≤i) _=>by show w.heap.size≤i;have:=HZ1.out;omega),HBF.out⟩
  ·have hix:Qdf x.vers ver= -1:=Qb1 fun i hi e=>hin (by rw[←e];exact List.getElem_mem hi)
   have HNN:Hid (QbT l entry ver=none):=Lh (HNO.out hix);rw[hix];have z0:=HX1w.out.cell 0 rfl;have f0:=HX1w.out.fz 0;have z1:=(HX1w.out.set 0 (.slice none 0 0)).cell 1 rfl;have f1:=(HX1w.out.set 0 (.slice none 0 0)).fz 1;clear hix hin k2 k3 x2;go_wp2_with fail
   exact bodyPost_ret (v:=.tuple #[.agg #[.slice none 0 0,.slice none 0 0],.bool false]) (Qai Tryz.results27 _ _ (w.heap.size+1) _ #[.slice none 0 0,.slice none 0 0] (0,0) _ rfl (abox2 HX1w.out _ _) Tryz.underlying36 rfl (by kernel_rfl)) rfl ⟨TxtQ.no _ HNN.out,QbD HBA.out (by omega) _ _⟩
def fillW (x:Word):Word:=⟨Qcd (Qaq x.s),⟨#[]⟩,0,x.n⟩
theorem fillW_law {x:Word}(h:Good x):Good (fillW x)∧Qaq (fillW x).s=Qaq x.s:=by
 have h1:=fill_int (Qaq x.s) (by rw[fill_width];exact h.1);exact⟨⟨h1.1,Or.inl rfl,Or.inl rfl⟩,h1.2⟩
/-! Two texts whose words are good ones of the same widths,with the same notes. -/
def SimW (x y:Word):Prop:=Good x∧Good y∧Qaq y.s=Qaq x.s∧y.n=x.n
def All2 {α:Type}(R:α→α→Prop):List α→List α→Prop
 |[],[]=>True
 |a::l,b::m=>R a b∧All2 R l m
 |_,_=>False
theorem All2.map {α β:Type}{R:α→α→Prop}(f g:α→β)(h:∀a b,R a b→g b=f a):∀(l m:List α),All2 R l m→m.map g=l.map f
 |[],[],_=>rfl
 |a::l,b::m,H=>by rw[List.map_cons,List.map_cons,h a b H.1,All2.map f g h l m H.2]
 |[],_::_,H=>H.elim
 |_::_,[],H=>H.elim
theorem All2.len {α:Type}{R:α→α→Prop}{l m:List α}(H:All2 R l m):m.length=l.length:=by
 have:=congrArg List.length (All2.map (fun _=>()) (fun _=>()) (fun _ _ _=>rfl) l m H);rwa [qM,qM] at this
theorem All2.app {α:Type}{R:α→α→Prop}:∀{l m l' m':List α},All2 R l m→All2 R l' m'→All2 R (l++l') (m++m')
 |[],[],_,_,_,h=>h
 |_::_,_::_,_,_,H,h=>⟨H.1,All2.app H.2 h⟩
 |[],_::_,_,_,H,_=>H.elim
 |_::_,[],_,_,H,_=>H.elim
theorem All2.flat {R:Word→Word→Prop}:∀{l m:List (List Word)},All2 (All2 R) l m→All2 R l.flatten m.flatten
 |[],[],_=>trivial
 |_::_,_::_,H=>All2.app H.1 (All2.flat H.2)
 |[],_::_,H=>H.elim
 |_::_,[],H=>H.elim
theorem All2.right {α:Type}{R:α→α→Prop}{P:α→Prop}(h:∀a b,R a b→P b):∀{l m:List α},All2 R l m→∀b∈m,P b
 |[],[],_,_,hb=>absurd hb (by simp)
 |a::_,b::_,H,c,hc=>by
  rcases List.mem_cons.1 hc with rfl|hc
  ·exact h _ _ H.1
  ·exact All2.right h H.2 c hc
 |[],_::_,H,_,_=>H.elim
 |_::_,[],H,_,_=>H.elim
theorem All2.mem {α:Type}{R:α→α→Prop}:∀{l m:List α},All2 R l m→∀b∈m,∃a∈l,R a b
 |[],[],_,_,hb=>absurd hb (by simp)
 |a::_,b::_,H,c,hc=>by
  rcases List.mem_cons.1 hc with rfl|hc
  ·exact⟨a,List.mem_cons_self ..,H.1⟩
  ·obtain⟨x,hx,hr⟩:=All2.mem H.2 c hc;exact⟨x,List.mem_cons_of_mem _ hx,hr⟩
 |[],_::_,H,_,_=>H.elim
 |_::_,[],H,_,_=>H.elim
theorem sim_tot {l m:List (List Word)}(H:All2 (All2 SimW) l m):tot m=tot l:=(All2.flat H).len
theorem sim_seq {l m:List Word}(H:All2 SimW l m):QaO m=QaO l:=by
 unfold QaO;rw[All2.map (·.n) (·.n) (fun _ _ h=>h.2.2.2) l m H]
theorem sim_widths {l m:List Word}(H:All2 SimW l m):Qad m=Qad l:=by
 unfold Qad;exact All2.map (fun x:Word=>Qaq x.s) (fun x:Word=>Qaq x.s) (fun _ _ h=>h.2.2.1) l m H
theorem sim_notes {l m:List Word}(H:All2 SimW l m):QaA m=QaA l:=by
 have h1:∀q:List Word,QaA q=((q.map (·.n)).filter fun z=>decide (z≠0)).map fun z=>z-1:=fun q=>by
  unfold QaA;rw[List.filter_map,List.map_map];rfl
 rw[h1,h1,All2.map (·.n) (·.n) (fun _ _ h=>h.2.2.2) l m H]
theorem All2.drop {α:Type}{R:α→α→Prop}:∀(k:Nat) {l m:List α},All2 R l m→All2 R (l.drop k) (m.drop k)
 |0,_,_,H=>H
 |_+1,[],[],_=>trivial
 |k+1,_::_,_::_,H=>All2.drop k H.2
 |_+1,[],_::_,H=>H.elim
 |_+1,_::_,[],H=>H.elim
theorem All2.take {α:Type}{R:α→α→Prop}:∀(k:Nat) {l m:List α},All2 R l m→All2 R (l.take k) (m.take k)
 |0,_,_,_=>trivial
 |_+1,[],[],_=>trivial
 |k+1,_::_,_::_,H=>⟨H.1,All2.take k H.2⟩
 |_+1,[],_::_,H=>H.elim
 |_+1,_::_,[],H=>H.elim
theorem sim_lines {l q:List Word}(H:All2 SimW l q)(wd:List Int)(m first:Int):∀(es:List Nat) (i:Nat),Qan q wd m first i es=Qan l wd m first i es
 |[],_=>rfl
 |e::es,i=>by
  rw[Qan,Qan,sim_lines H wd m first es e];congr 2;unfold Qdi;exact sim_notes (All2.drop _ (All2.take _ H))
theorem sim_setP {l q:List Word}(H:All2 SimW l q)(first m:Int):QdN q first m=QdN l first m:=by
 unfold QdN;rw[sim_widths H,sim_lines H]
theorem sim_parts (m:Int):∀{l q:List (List Word)} (first:Int),All2 (All2 SimW) l q→Qar m first q=Qar m first l
 |[],[],_,_=>rfl
 |p::ps,r::rs,first,H=>by rw[Qar,Qar,sim_setP H.1,H.1.len,sim_parts m _ H.2]
 |[],_::_,_,H=>H.elim
 |_::_,[],_,H=>H.elim
def SimT (t u:TextP):Prop:=All2 (All2 SimW) t.a u.a∧All2 (All2 SimW) t.b u.b
theorem GText.sim {t u:TextP}(G:GText t.a t.b)(H:SimT t u):GText u.a u.b where
 l1:=by rw[H.1.len];exact G.l1
 l4:=by rw[H.1.len];exact G.l4
 n3:=by rw[H.2.len];exact G.n3
 p:=fun p hp=>by
  obtain⟨q,hq,hr⟩:=All2.mem H.1 p hp;obtain⟨h1,h2,-⟩:=G.p q hq;exact⟨by rw[hr.len];exact h1,by rw[hr.len];exact h2,All2.right (fun _ _ h=>h.2.1) hr⟩
 q:=fun p hp=>by
  obtain⟨q,hq,hr⟩:=All2.mem H.2 p hp;obtain⟨h1,h2,h3⟩:=G.q q hq;refine⟨by rw[hr.len];exact h1,by rw[hr.len];exact h2,fun x hx=>?_⟩;obtain⟨y,hy,h4⟩:=All2.mem hr x hx;exact⟨h4.2.1,by rw[h4.2.2.2];exact(h3 y hy).2⟩
 s:=by rw[sim_seq (All2.flat H.1),G.s,H.2.len]
theorem sim_pages {t u:TextP}(G:GText t.a t.b)(H:SimT t u){m h:Int}(hz:Siz m h):Qag u.a u.b m h=Qag t.a t.b m h:=by
 have hm:500≤m∧m≤2000:=⟨hz.m1,hz.m2⟩;have hh:4≤h∧h≤100:=⟨hz.h1,hz.h2⟩;rw[((G.sim H).pages hm hh).1,(G.pages hm hh).1];unfold Qay QaL Qal;rw[sim_parts m 0 H.1,sim_tot H.1,sim_parts m _ H.2]
/-! The shape. -/
def shW (q:Nat→Bool)(k:Nat)(x:Word):Word:=if q k=true then x else fillW x
def shP (q:Nat→Bool):Nat→List Word→List Word
 |_,[]=>[]
 |k,x::l=>shW q k x::shP q (k+1) l
def shT (q:Nat→Bool):Nat→List (List Word)→List (List Word)
 |_,[]=>[]
 |k,p::l=>shP q k p::shT q (k+p.length) l
def shX (q:Nat→Bool)(t:TextP):TextP:=⟨shT q 0 t.a,shT q (tot t.a) t.b⟩
theorem QdW (q:Nat→Bool):∀(l:List Word) (k:Nat),(shP q k l).length=l.length
 |[],_=>rfl
 |_::l,k=>by rw[shP,qC,qC,QdW q l]
theorem Qbo (q:Nat→Bool):∀(l:List (List Word)) (k:Nat),(shT q k l).length=l.length
 |[],_=>rfl
 |_::l,k=>by rw[shT,qC,qC,Qbo q l]
theorem shP_get (q:Nat→Bool):∀(l:List Word) (k i:Nat),(shP q k l)[i]? =(l[i]?).map (shW q (k+i))
 |[],_,_=>by rw[shP];rfl
 |_::_,_,0=>rfl
 |_::l,k,i+1=>by
  rw[shP,List.getElem?_cons_succ,List.getElem?_cons_succ,shP_get q l (k+1) i,show k+1+i=k+(i+1) by omega]
theorem shP_snoc (q:Nat→Bool)(x:Word):∀(l:List Word) (k:Nat),shP q k (l++[x])=shP q k l++[shW q (k+l.length) x]
 |[],_=>rfl
 |y::l,k=>by
  rw[List.cons_append,shP,shP,shP_snoc q x l,qC,List.cons_append,show k+1+l.length=k+(l.length+1) by omega]
theorem tot_cons (p:List Word)(l:List (List Word)):tot (p::l)=p.length+tot l:=by unfold tot;rw[List.flatten_cons,qA]
theorem tot_app (l m:List (List Word)):tot (l++m)=tot l+tot m:=by unfold tot;rw[List.flatten_append,qA]
theorem shT_snoc (q:Nat→Bool)(p:List Word):∀(l:List (List Word)) (k:Nat),shT q k (l++[p])=shT q k l++[shP q (k+tot l) p]
 |[],_=>rfl
 |r::l,k=>by
  rw[List.cons_append,shT,shT,shT_snoc q p l,tot_cons,List.cons_append,show k+r.length+tot l=k+(r.length+tot l) by omega]
theorem shP_flat (q:Nat→Bool):∀(l m:List Word) (k:Nat),shP q k (l++m)=shP q k l++shP q (k+l.length) m
 |[],_,_=>rfl
 |_::l,m,k=>by
  rw[List.cons_append,shP,shP,shP_flat q l m,qC,List.cons_append,show k+1+l.length=k+(l.length+1) by omega]
theorem Qdp (q:Nat→Bool):∀(l:List (List Word)) (k:Nat),(shT q k l).flatten=shP q k l.flatten
 |[],_=>rfl
 |p::l,k=>by rw[shT,List.flatten_cons,List.flatten_cons,Qdp q l,shP_flat]
theorem shX_all (q:Nat→Bool)(t:TextP):QaF (shX q t)=shP q 0 (QaF t):=by
 unfold QaF shX;dsimp only;rw[List.flatten_append,List.flatten_append,Qdp,Qdp,shP_flat,Nat.zero_add];rfl
theorem shW_sim (q:Nat→Bool)(k:Nat){x:Word}(h:Good x):SimW x (shW q k x):=by
 unfold shW;split
 ·exact⟨h,h,rfl,rfl⟩
 ·exact⟨h,(fillW_law h).1,(fillW_law h).2,rfl⟩
theorem shP_sim (q:Nat→Bool):∀(l:List Word) (k:Nat),(∀x∈l,Good x)→All2 SimW l (shP q k l)
 |[],_,_=>trivial
 |x::l,k,h=>⟨shW_sim q k (h x (List.mem_cons_self ..)),shP_sim q l (k+1) fun y hy=>h y (List.mem_cons_of_mem _ hy)⟩
theorem shT_sim (q:Nat→Bool):∀(l:List (List Word)) (k:Nat),(∀p∈l,∀x∈p,Good x)→All2 (All2 SimW) l (shT q k l)
 |[],_,_=>trivial
 |p::l,k,h=>⟨shP_sim q p k (h p (List.mem_cons_self ..)),shT_sim q l _ fun r hr=>h r (List.mem_cons_of_mem _ hr)⟩
theorem shX_sim (q:Nat→Bool){t:TextP}(G:GText t.a t.b):SimT t (shX q t):=
 ⟨shT_sim q _ _ fun p hp=>(G.p p hp).2.2,shT_sim q _ _ fun p hp x hx=>((G.q p hp).2.2 x hx).1⟩
theorem Qc4 (q:Nat→Bool)(l:List (List Word))(k:Nat):tot (shT q k l)=tot l:=by unfold tot;rw[Qdp,QdW]
def seeN (sl:List Seal)(gs e v:Int)(k:Nat):Bool:=seeB sl gs e v (k:Int)
def Qaz (sl:List Seal)(gs e v:Int)(t:TextP):TextP:=shX (seeN sl gs e v) t
def Qdk (q:Nat→Bool)(K:Nat)(p:List Word)(j:Nat):List Word:=shP q K (p.take j)++p.drop j
theorem midL_all (q:Nat→Bool)(K:Nat){p:List Word}{j:Nat}(h:p.length≤j):Qdk q K p j=shP q K p:=by
 unfold Qdk;rw[List.take_of_length_le h,List.drop_of_length_le h,List.append_nil]
theorem midL_len (q:Nat→Bool)(K:Nat)(p:List Word)(j:Nat):(Qdk q K p j).length=p.length:=by
 unfold Qdk;rw[qA,QdW,←qA,List.take_append_drop]
theorem midL_at (q:Nat→Bool)(K:Nat){p:List Word}{j:Nat}(h:j<p.length)(h':j<(Qdk q K p j).length):(Qdk q K p j)[j]=p[j]:=by
 have hl:(shP q K (p.take j)).length=j:=by rw[QdW,qK];omega
 simp only[Qdk];rw[List.getElem_append_right (by omega)];simp[hl]
theorem midL_next (q:Nat→Bool)(K:Nat){p:List Word}{j:Nat}(h:j<p.length):(Qdk q K p j).set j (shW q (K+j) p[j])=Qdk q K p (j+1):=by
 have hl:(shP q K (p.take j)).length=j:=by rw[QdW,qK];omega
 have hl2:(p.take j).length=j:=by rw[qK];omega
 unfold Qdk;rw[List.set_append_right _ _ (by omega),hl,Nat.sub_self,List.drop_eq_getElem_cons h,sZ0,qT h,shP_snoc,hl2,List.append_assoc];rfl
theorem midL_same (q:Nat→Bool)(K:Nat){p:List Word}{j:Nat}(h:j<p.length)(hq:q (K+j)=true):Qdk q K p (j+1)=Qdk q K p j:=by
 rw[←midL_next q K h];unfold shW;rw[if_pos hq];have h':j<(Qdk q K p j).length:=by rw[midL_len];exact h
 have:=midL_at q K h h';rw[←this,List.set_getElem_self]
def outL (q:Nat→Bool)(K n:Nat)(l:List (List Word))(i:Nat):List (List Word):=shT q K (l.take i)++List.replicate (n-i) []
theorem outL_all (q:Nat→Bool)(K:Nat){n:Nat}{l:List (List Word)}(h:l.length=n):outL q K n l n=shT q K l:=by
 unfold outL;rw[List.take_of_length_le (by omega),Nat.sub_self,List.replicate_zero,List.append_nil]
theorem QcF (q:Nat→Bool)(K:Nat){n:Nat}{l:List (List Word)}(h:l.length=n){i:Nat}(hi:i≤n):(outL q K n l i).length=n:=by
 unfold outL;rw[qA,Qbo,qK,List.length_replicate];omega
theorem outL_next (q:Nat→Bool)(K:Nat){n:Nat}{l:List (List Word)}(h:l.length=n){i:Nat}(hi:i<l.length):(outL q K n l i).set i (shP q (K+tot (l.take i)) l[i])=outL q K n l (i+1):=by
 have hl:(shT q K (l.take i)).length=i:=by rw[Qbo,qK];omega
 unfold outL;obtain⟨d,hd⟩:∃d,n-i=d+1:=⟨n-i-1,by omega⟩;rw[List.set_append_right _ _ (by omega),hl,Nat.sub_self,hd,List.replicate_succ,sZ0,qT hi,shT_snoc,List.append_assoc,show n-(i+1)=d by omega];rfl
theorem totT_le (l:List (List Word)){i:Nat}(hi:i<l.length):tot (l.take i)+l[i].length≤tot l:=by
 rw[←Qcy l i hi];exact tot_le l (i+1)
/-! A world in which one block alone has changed,and new ones have come. -/
theorem QdE {w W:World}{bn g o:Nat}{u:Value}(h:w.grownBy W (some bn))(hg:w.heap.size≤g∨g=bn):w.grownBy (W.setCell ⟨g,o,none⟩ u) (some bn):=
 ⟨h.os,h.tape,h.output,by have:=h.size;simpa using this,fun i hi hne=>(Qaa W g o u (by rcases hg with hg|hg<;>(intro e;subst e;first|omega|exact hne (by rw[hg])))).trans (h.block i hi hne)⟩
theorem Qb5 {w W V:World}{bn:Nat}(h:w.grownBy W (some bn))(hb:Below W.heap.size W V):w.grownBy V (some bn):=Qa9 h (Qd4 hb _)
theorem QcS {w W:World}{bn b:Nat}{t:TypeId}{cs:List Value}(h:w.grownBy W (some bn))(hb:b≠bn)(hx:ABox w b t cs):ABox W b t cs:=
 (h.block b (Array.getElem?_eq_some_iff.1 hx).1 (by intro e;injection e with e;exact hb e)).trans hx
def nilR:Raw:=⟨.slice none 0 0,rfl⟩
theorem made_nils (n:Nat):(madeCells (Value.slice none 0 0).cells (n*1)).toList=List.replicate n (Value.slice none 0 0):=by
 unfold madeCells;rw[Nat.mul_one];apply List.ext_getElem?;intro i;simp only[Value.cells,Array.toList_map,Array.toList_range,List.getElem?_map,List.getElem?_replicate];by_cases h:i<n
 ·rw[List.getElem?_range h,if_pos h];simp[Nat.mod_one]
 ·rw[List.getElem?_eq_none (by simpa using h),if_neg h];rfl
theorem own_nils (w:World)(te:TypeId)(n:Nat)(hn:n≤maxLen):Own (w.alloc (.cells (madeCells (Value.slice none 0 0).cells (n*1)) te)) 0 te (.slice (some ⟨w.heap.size,0,none⟩) n n) (List.replicate n nilR):=by
 refine⟨List.replicate n (Value.slice none 0 0),⟨by rw[List.length_replicate,List.length_replicate];exact(Nat.mul_one n).symm,.inr ⟨w.heap.size,n,_,by rw[List.length_replicate],Nat.zero_le _,heap_alloc_new w _,by rw[List.length_replicate];exact Nat.le_refl _,hn,size_madeCells _ _,?_⟩⟩,?_,?_⟩
 ·rw[List.length_replicate,made_nils];exact List.take_of_length_le (by rw[List.length_replicate];exact Nat.le_of_eq (Nat.mul_one n).symm)
 ·intro u hu;rw[(List.mem_replicate.1 hu).2];rfl
 ·intro i hi;rw[List.length_replicate] at hi;rw[List.getElem_replicate];show((List.replicate n (Value.slice none 0 0)).drop (i*1)).take 1=[nilR.v];rw[Nat.mul_one,List.drop_replicate,List.take_replicate,Nat.min_eq_left (by omega)];rfl
theorem nest_made (w:World)(te ti:TypeId)(n:Nat)(hn:n≤maxLen):Nest (w.alloc (.cells (madeCells (Value.slice none 0 0).cells (n*1)) te)) (fun g=>w.heap.size≤g) te ti (.slice (some ⟨w.heap.size,0,none⟩) n n) (List.replicate n nilR) (List.replicate n []):=by
 have hv:∀i (h:i<(List.replicate n nilR).length),(List.replicate n nilR)[i].v=.slice none 0 0:=fun i h=>by rw[List.getElem_replicate];rfl
 refine⟨own_nils w te n hn,by rw[List.length_replicate,List.length_replicate],fun i h h'=>?_,fun g hg=>by cases hg;exact Nat.le_refl _,fun i h g hg=>?_,fun i h g hg=>?_,fun i j h h' g _ hg=>?_⟩
 ·rw[hv i h,List.getElem_replicate];exact Own.nil _ _ _
 ·rw[hv i h] at hg;cases hg
 ·rw[hv i h] at hg;cases hg
 ·rw[hv i h] at hg;cases hg
theorem Nest.at_row {w:World}{B:Nat→Prop}{te ti:TypeId}{v x:Value}{us:List Raw}{ls:List (List Word)}{m:List Word}{i:Nat}(h:Nest w B te ti v us (ls.set i m))(hi:i<us.length)(hx:us[i].v=x):Own w 0 ti x m:=by
 have hi':i<(ls.set i m).length:=by rw[←h.len];exact hi
 have:=h.inn i hi hi';rwa [hx,List.getElem_set_self] at this
theorem own_word {w:World}{base:Nat}{e:TypeId}{A:Option Addr}{n c:Nat}{l:List Word}(h:Own w base e (.slice A n c) l){j:Nat}(hj:j<l.length):∃g,A=some ⟨g,0,none⟩∧g<w.heap.size∧n=l.length∧n≤c∧l[j].ok∧ w.cell? ⟨g,j*4,none⟩=some (.string l[j].s)∧w.cell? ⟨g,j*4+1,none⟩=some (.string l[j].key)∧w.cell? ⟨g,j*4+2,none⟩=some (.int .i64 l[j].t)∧w.cell? ⟨g,j*4+3,none⟩=some (.int .i64 l[j].n)∧∀o,w.frozen? ⟨g,o,none⟩=false:=by
 obtain⟨g,cap,es,hA,-,hlt,hc,⟨rfl,hok⟩,hcell,hfz⟩:=h.at_ hj;injection hA with e1 e2 e3
 subst e1;subst e3;exact⟨g,rfl,hlt,e2,by omega,hok,hcell 0 _ rfl,hcell 1 _ rfl,hcell 2 _ rfl,hcell 3 _ rfl,hfz⟩
theorem fillW_ok {x:Word}(h:x.ok):(fillW x).ok:=by
 have hz:∀n:Int,(Qcd n).size≤40:=fun n=>by
  by_cases h:QbG n=true
  ·have h1:=(fill_int n h).1;unfold QaM at h1;rw[Bool.and_eq_true,decide_eq_true_iff] at h1;exact h1.1.2
  ·unfold Qcd;rw[if_neg h];decide
 exact⟨by have:=hz (Qaq x.s);show(Qcd (Qaq x.s)).size≤_;unfold maxLen;omega,by show(⟨#[]⟩:ByteArray).size≤_;decide,⟨by show(-9223372036854775808:Int)≤0;decide,by show(0:Int)≤9223372036854775807;decide⟩,h.2.2.2⟩
set_option maxRecDepth 100000 in
theorem shape1_any (bn:Nat)(A:Option Addr)(c n:Nat)(l:List (List Word))(k0:Nat)(pl pg pe pv:Addr)(As:Option Addr)(cs ns:Nat)(sl:List Seal)(gs e ve:Int)(w0 w:World) (hl:l.length=n) (hs:Sl w0 (fun b=>b<w0.heap.size) A c l) (hln:n≤1000) (htt:k0+tot l≤1048576) (hsl:Sl w0 (fun b=>b<w0.heap.size) As cs sl) (hns:sl.length=ns) (hsz:ns≤1048576) (hg:∀s∈sl,0≤s.g∧s.g<16) (hT:Tabs w0) (hb0:Below w0.heap.size w0 w) (hbn:w0.heap.size≤bn) (hN:ABox w bn 3 [.int .i64 (k0:Int)]) (hc:∀W,w.grownBy W (some bn)→W.cell? pl=some (.slice As ns cs)∧W.cell? pg=some (.int .i64 gs)∧W.cell? pe=some (.int .i64 e)∧W.cell? pv=some (.int .i64 ve)):
 Calls Tryz.prog 81 #[.slice A n c,.pointer (some pl),.pointer (some pg),.pointer (some pe),.pointer (some pv),.pointer (some ⟨bn,0,none⟩)] w fun r W=>∃v,r=.returned v∧(∃us,Nest W (fun g=>w.heap.size≤g) 110 66 v us (shT (seeN sl gs e ve) k0 l))∧ABox W bn 3 [.int .i64 ((k0+tot l:Nat):Int)]∧w.grownBy W (some bn):=by
 obtain⟨q,hq⟩:∃q,seeN sl gs e ve=q:=⟨_,rfl⟩;have HW0:Hid (∀W,w.grownBy W (some bn)→Below w0.heap.size w0 W):=Lh fun W hW=>Qcq hb0 hW hb0.size (fun g hg=>by cases hg;exact hbn)
 have HMY:Hid (∀W (x:Nat),w.grownBy W (some bn)→Calls Tryz.prog 30 #[.slice As ns cs,.int .i64 gs,.int .i64 e,.int .i64 ve,.int .i64 (x:Int)] W fun r w'=>r=.returned (.bool (q x))∧Below W.heap.size W w'):=Lh fun W x hW=>by
  have:=may_any As cs ns sl gs e ve (x:Int) W (hsl.to (HW0.out W hW)) hns hsz hg;rw[←hq];exact this
 rw[hq];have HT:=Lh hT;have HC:=Lh hc;have HS:=Lh hs;have HL:=Lh hl;have HTT:=Lh htt;have HNC:Hid (n≤c):=Lh (by rw[←hl];exact hs.1);have HLT:Hid (bn<w.heap.size):=Lh (Array.getElem?_eq_some_iff.1 hN).1;have hnc:=HNC.out;obtain⟨wm,hwm⟩:∃wm,w.alloc (.cells (madeCells #[.slice none 0 0] n) 110)=wm:=⟨_,rfl⟩
 have HNE0:Hid (Nest wm (fun g=>w.heap.size≤g) 110 66 (.slice (some ⟨w.heap.size,0,none⟩) n n) (List.replicate n nilR) (outL q k0 n l 0)):=Lh (by
  have h:=nest_made w 110 66 n (by unfold maxLen;omega)
  rw[Nat.mul_one] at h
  rw[←hwm];exact h)
 have HGM:Hid (w.grownBy wm (some bn)):=Lh (by rw[←hwm];exact Qd4 (bR.alloc nL _) _);have HBM:Hid (ABox wm bn 3 [.int .i64 ((k0+tot (l.take 0):Nat):Int)]):=Lh (by rw[←hwm];exact hN.to (bR.alloc nL _));clear hl hs htt hsl hns hsz hg hT hb0 hbn hN hc hq;go_enter Tryz.func81,Tryz.ntmps81
 go_upto_region 2 with(first|(refine QaY rfl 34 (.tmp 16) (.tmp 16) rfl 110 (.slice none 0 0) 1 24 Tryz.underlying34 par_info n rfl rfl (by omega) (by omega) ?_)|fail)
 (try rw[hwm]);clear hwm;go_wp2_with fail;go_loopw [20] (fun x wr=>∃(i:Nat) (us:List Raw),i≤n∧x=.int .i64 (i:Int)∧Hid (Nest wr (fun g=>w.heap.size≤g) 110 66 (.slice (some ⟨w.heap.size,0,none⟩) n n) us (outL q k0 n l i))∧Hid (ABox wr bn 3 [.int .i64 ((k0+tot (l.take i):Nat):Int)])∧Hid (w.grownBy wr (some bn))) (fun x _=>n-(intOf x).toNat);(case atStart=>exact⟨0,_,Nat.zero_le _,rfl,HNE0,HBM,HGM⟩);case round=>
  clear HNE0 HBM HGM;obtain⟨i,us,hi,rfl,HNE,HBX,HGR⟩:=hrel;by_cases hlt:i<n
  ·have hkl:i<l.length:=by rw[HL.out];exact hlt
   obtain⟨b,o,A1,c1,rfl,_,hbl,kc,hp⟩:=Qbw (HS.out.to (HW0.out wr HGR.out)) hkl;have HTL:=Lh (totT_le l hkl);have HTS:=Lh (Qcy l i hkl);have HON:=Lh (outL_next q k0 HL.out hkl);obtain⟨p,hpp⟩:∃p,l[i]=p:=⟨_,rfl⟩;rw[hpp] at kc hp HTL HTS HON;obtain⟨np,hnp⟩:∃np,p.length=np:=⟨_,rfl⟩;rw[hnp] at kc HTL HTS;have HNP:=Lh hnp;have HP:=Lh hp;obtain⟨K,hK0⟩:∃K,k0+tot (l.take i)=K:=⟨_,rfl⟩;have HK:=Lh hK0;rw[hK0] at HBX HON;have HKN:Hid (K+np≤1048576):=Lh (by have:=HTL.out;have:=HTT.out;omega);have hnp2:np≤1048576:=(by have:=HKN.out;omega);have hpc:np≤c1:=(by rw[←hnp];exact hp.1);have hKI:(i:Int)<(n:Int):=(by omega);have hKc:(i:Int)<(c:Int):=(by omega);obtain⟨X,hX⟩:∃X,w.heap.size=X:=⟨_,rfl⟩;have HX:=Lh hX;rw[hX] at HNE ⊢;clear hpp hnp hp hK0 hkl hX;go_upto_region 5 with(fail)
   go_upto_region 6 with(first|(go_at_call 82;refine(wclone_any A1 c1 np p wr HP.out HNP.out (by omega)).mono ?_;rintro r w4 ⟨v4,rfl,ho,hb⟩;obtain⟨A4,c4,rfl,hA4,hc4,-⟩:=ho.form;rw[HNP.out] at ho hc4 ⊢;have HO4:=Lh ho;have HB4:=Lh hb;have HNE4:=Lh (HNE.out.below hb);obtain⟨g9,cap9,hu9,hv9,-,-,-,hcell,hfz⟩:=HNE4.out.at_ (k:=i) (by rw[QcF q k0 HL.out (by omega)];exact hlt);injection hv9 with e1 e2 e3;injection e1 with e1;injection e1 with e1;subst e1;clear ho hb hA4 e2 e3 kc)|fail)
   obtain⟨w5,hw5⟩:∃w5,w4.setCell ⟨X,i,none⟩ (.slice A4 np c4)=w5:=⟨_,rfl⟩
   have HNE5:Hid (Nest w5 (fun g=>X≤g) 110 66 (.slice (some ⟨X,0,none⟩) n n) (us.set i ⟨.slice A4 np c4,rfl⟩) ((outL q k0 n l i).set i (Qdk q K p 0))):=Lh (by
    have h1:=(HNE.out.mono (B':=fun g=>X≤g∧g<wr.heap.size) fun g hg h=>⟨h,hg⟩).below HB4.out
    have hi':i<us.length:=by rw[h1.len,QcF q k0 HL.out (by omega)];exact hlt
    have h2:=h1.own.setf i 0 hi' (show 0<Rep.size Raw by decide) (.slice A4 np c4) rfl (⟨.slice A4 np c4,rfl⟩:Raw) (fun S es he=>by have he':es=[us[i].v]:=he;subst he';rfl) (o:=i) (by show i=i*1+0;omega)
    rw[←hw5]
    refine h1.row i (l:=p) (u:=⟨.slice A4 np c4,rfl⟩) (HO4.out.rebase (lo:=0) fun g _=>Nat.zero_le _) (fun g hg=>?_) (fun b hb hne=>Qaa _ _ _ _ (fun e=>hne (by rw[e];rfl))) h2.1 (fun g hg=>hg.1)
    have h3:=(HO4.out.lt g hg).1
    exact⟨fun h=>by have:=h.2;omega,by have:=HGR.out.size;have:=HX.out;show X≤g;omega⟩)
   have HBX5:Hid (ABox w5 bn 3 [.int .i64 ((K+0:Nat):Int)]):=Lh (by rw[←hw5];exact(Qaa w4 X i _ (by have:=HLT.out;have:=HX.out;omega)).trans (HBX.out.to HB4.out));have HG5:Hid (w.grownBy w5 (some bn)):=Lh (by rw[←hw5];exact QdE (Qb5 HGR.out HB4.out) (Or.inl (by have:=HX.out;omega)));obtain⟨us5,hus5⟩:∃u,us.set i ⟨.slice A4 np c4,rfl⟩=u:=⟨_,rfl⟩;have HUL:Hid (i<us5.length):=Lh (by rw[←hus5,List.length_set,HNE.out.len,QcF q k0 HL.out (by omega)];exact hlt)
   have HUV:Hid ((us5[i]'HUL.out).v=.slice A4 np c4):=Lh (by
    have h:us5[i]? =some ⟨.slice A4 np c4,rfl⟩:=(by rw[←hus5,List.getElem?_set_self (by rw[HNE.out.len,QcF q k0 HL.out (by omega)];exact hlt)])
    rw[qG HUL.out] at h
    rw[Option.some.inj h])
   rw[hus5] at HNE5
   have HCX:Hid (∀W m,Nest W (fun g=>X≤g) 110 66 (.slice (some ⟨X,0,none⟩) n n) us5 ((outL q k0 n l i).set i m)→W.cell? ⟨X,i,none⟩=some (.slice A4 np c4)):=Lh fun W m h=>by
    obtain⟨g9,cap9,hu9,hv9,-,-,-,h9,-⟩:=h.at_ (k:=i) (by rw[List.length_set,QcF q k0 HL.out (by omega)];exact hlt);injection hv9 with e1 e2 e3
    injection e1 with e1
    injection e1 with e1
    subst e1;rw[h9,HUV.out]
   rw[hw5];have HON2:Hid ((outL q k0 n l i).set i (shP q K p)=outL q k0 n l (i+1)):=HON;clear hw5 hus5 hcell hfz HNE HBX HGR HON HO4 HNE4 HB4;have c5:=HCX.out w5 _ HNE5.out;go_wp2_with fail;clear c5;go_loopw [35] (fun x wr=>∃j:Nat,j≤np∧x=.int .i64 (j:Int)∧Hid (Nest wr (fun g=>X≤g) 110 66 (.slice (some ⟨X,0,none⟩) n n) us5 ((outL q k0 n l i).set i (Qdk q K p j)))∧Hid (ABox wr bn 3 [.int .i64 ((K+j:Nat):Int)])∧Hid (w.grownBy wr (some bn))) (fun x _=>np-(intOf x).toNat);(case atStart=>exact⟨0,Nat.zero_le _,rfl,HNE5,HBX5,HG5⟩);case round=>
    clear HNE5 HBX5 HG5;obtain⟨j,hj,rfl,HNJ,HBJ,HGJ⟩:=hrel;by_cases hjl:j<np
    ·have hjp:j<p.length:=by rw[HNP.out];exact hjl
     have HIN:=Lh (HNJ.out.at_row HUL.out HUV.out);have hjm:j<(Qdk q K p j).length:=(by rw[midL_len,HNP.out];exact hjl);obtain⟨g4,hA4,hg4,-,hjc,hok,d0,d1,d2,d3,-⟩:=own_word HIN.out hjm;rw[midL_at q K hjp hjm] at hok d0 d1 d2 d3;have HMN:=Lh (midL_next q K hjp);have HMS:=Lh (midL_same q K hjp);obtain⟨x,hx⟩:∃x,p[j]=x:=⟨_,rfl⟩;rw[hx] at hok d0 d1 d2 d3 HMN;have HOK:=Lh hok;have hjI:(j:Int)<(np:Int):=(by omega);have hjI2:(j:Int)<(c4:Int):=(by omega);obtain⟨N,hN⟩:∃N,K+j=N:=⟨_,rfl⟩;have HN:=Lh hN;rw[hN] at HBJ HMN HMS;have hN2:N≤1048576:=(by have:=HKN.out;omega);have HMLen:Hid (np=(Qdk q K p j).length):=Lh (by rw[midL_len,HNP.out]);have HJM:=Lh hjm;subst hA4;obtain⟨qb,hqb⟩:∃qb,q N=qb:=⟨_,rfl⟩;have HQB:=Lh hqb;clear hx hN hok hjp hjm hqb hg4;go_upto_region 9 with(fail);obtain⟨w8,hw8⟩:∃w8,wr.alloc (.cells #[.string x.s,.string x.key,.int .i64 x.t,.int .i64 x.n] 66)=w8:=⟨_,rfl⟩;obtain⟨Z,hZ⟩:∃Z,wr.heap.size=Z:=⟨_,rfl⟩;have hb8:Below wr.heap.size wr w8:=(by rw[←hw8];exact bR.alloc nL _);have HX8:Hid (ABox w8 Z 66 [.string x.s,.string x.key,.int .i64 x.t,.int .i64 x.n]):=Lh (by rw[←hw8,←hZ];exact heap_alloc_new wr _);have HNE8:=Lh (HNJ.out.below hb8);have HBX8:=Lh (HBJ.out.to hb8);have HG8:=Lh (Qb5 HGJ.out hb8);rw[hw8,hZ];clear hw8 hZ hb8 d0 d1 d2 d3 HNJ HBJ HGJ HIN;have h1:=(HC.out w8 HG8.out).1;have h2:=(HC.out w8 HG8.out).2.1;have h3:=(HC.out w8 HG8.out).2.2.1;have h4:=(HC.out w8 HG8.out).2.2.2;have n0:=HBX8.out.cell 0 rfl;have HXB:Hid (bn<X):=Lh (by have:=HLT.out;have:=HX.out;omega);cases qb
     ·go_upto_region 11 with(first|(go_at_call 30;refine(HMY.out w8 N HG8.out).mono ?_;rw[HQB.out];rintro r w9 ⟨rfl,hb⟩;have HX9:=Lh (HX8.out.to hb);have HNE9:=Lh (HNE8.out.below hb);have HBX9:=Lh (HBX8.out.to hb);have HG9:=Lh (Qb5 HG8.out hb);have z0:=HX9.out.cell 0 rfl;clear hb h1 h2 h3 h4 n0)|(go_at_call 33;refine(Qbq x.s w9 (HT.out.to (HW0.out w9 HG9.out)).1).mono ?_;rintro r w10 ⟨rfl,rfl⟩)|(go_at_call 83;refine(gfill_any (Qaq x.s) (QbW x.s) w9).mono ?_;rintro r w11 ⟨rfl,hb⟩;have HX11:=Lh (HX9.out.to hb);have HNE11:=Lh (HNE9.out.below hb);have HBX11:=Lh (HBX9.out.to hb);have HG11:=Lh (Qb5 HG9.out hb);clear hb z0)|fail)
      have HFW:Hid (shW q N x=⟨Qcd (Qaq x.s),⟨#[]⟩,0,x.n⟩):=Lh (by unfold shW;rw[HQB.out];rfl);have HFO:Hid ((⟨Qcd (Qaq x.s),⟨#[]⟩,0,x.n⟩:Word).ok):=Lh (by have:=fillW_ok HOK.out;exact this);obtain⟨fs,hfs⟩:∃fs,Qcd (Qaq x.s)=fs:=⟨_,rfl⟩;rw[hfs] at HFW HFO ⊢;clear hfs HX8 HNE8 HBX8 HG8 HX9 HNE9 HBX9 HG9;refine Qaf [] (fun i=>SP.any) 10 (by kernel_rfl) (by kernel_rfl) ?_;intro T _ g hg hgm;have o0:∀d,(g d).cell? ⟨X,i,none⟩=some (.slice (some ⟨g4,0,none⟩) np c4):=fun d=>HCX.out (g d) _ (HNE11.out.below (hg d))
      have z3:∀d,(g d).cell? ⟨Z,3,none⟩=some (.int .i64 x.n):=fun d=>(HX11.out.to (hg d)).cell 3 rfl
      (repeat(refine Qac (by rfl) fun Kq hq=>?_;go_big_quiet_step (fail);refine wpQuiet_nil (hq _ ?_);clear hq Kq));refine QaP 1 (by rfl) (by rfl) (fun d hG=>?_);have HNEx:=Lh (HNE11.out.below (hg d));have HBXx:=Lh (HBX11.out.to (hg d));have HGx:=Lh (Qb5 HG11.out (hg d));clear hG hg hgm o0 z3;generalize g d=wx at*;clear g;have HINx:Hid (Own wx 0 66 (.slice (some ⟨g4,0,none⟩) (Qdk q K p j).length c4) (Qdk q K p j)):=Lh (by have h:=HNEx.out.at_row HUL.out HUV.out;rwa [show Value.slice (some ⟨g4,0,none⟩) np c4=Value.slice (some ⟨g4,0,none⟩) (Qdk q K p j).length c4 by rw[←HMLen.out]] at h);have HTH:Hid (wx.there g4 (j*4) 4):=Lh (HINx.out.there HJM.out);have hrp:Rep.R wx (fun b=>b≠g4) [.string fs,.string ⟨#[]⟩,.int .i64 0,.int .i64 x.n] (⟨fs,⟨#[]⟩,0,x.n⟩:Word):=⟨rfl,HFO.out⟩;have HSM:=Lh (HINx.out.setMid HJM.out hrp);have HGN:Hid (X≤g4):=Lh (HNEx.out.mi i HUL.out g4 (by rw[HUV.out];rfl));clear hrp;refine Qao (i:=10) (oi:=_) rfl (by kernel_rfl) (by rfl) (fun K hK=>?_);refine wp_store_mid 66 (.tmp 63) (.tmp 62) rfl g4 (j*4) #[.string fs,.string ⟨#[]⟩,.int .i64 0,.int .i64 x.n] rfl rfl HTH.out (by kernel_rfl) (by simp[Value.oneCell']) ?_;refine hK _ _ ?_;clear hK K;refine wpAny_done (by kernel_rfl) ?_ _;unfold Exit.then;obtain⟨w12,hw12⟩:∃w12,wx.setCells g4 (j*4) [.string fs,.string ⟨#[]⟩,.int .i64 0,.int .i64 x.n]=w12:=⟨_,rfl⟩
      have HNE12:Hid (Nest w12 (fun g=>X≤g) 110 66 (.slice (some ⟨X,0,none⟩) n n) us5 ((outL q k0 n l i).set i (Qdk q K p (j+1)))):=Lh (by
       have hso:=HSM.out
       rw[←HFW.out,HMN.out] at hso
       have h:=HNEx.out.inner i HUL.out (w':=w12) (l:=Qdk q K p (j+1)) (fun b hb hne=>by rw[←hw12];exact QaB g4 (fun e=>hne (by rw[HUV.out,e];rfl)) _ _ _) (by
        rw[HUV.out,←hw12]
        rwa [show Value.slice (some ⟨g4,0,none⟩) np c4=Value.slice (some ⟨g4,0,none⟩) (Qdk q K p j).length c4 by rw[←HMLen.out]])
       rwa [List.set_set] at h)
      have HBX12:Hid (ABox w12 bn 3 [.int .i64 (N:Int)]):=Lh (by rw[←hw12];exact(QaB g4 (by have:=HGN.out;have:=HXB.out;omega) _ _ _).trans HBXx.out);have HG12:Hid (w.grownBy w12 (some bn)):=Lh (by rw[←hw12];exact QdE (QdE (QdE (QdE HGx.out (Or.inl (by have:=HGN.out;have:=HX.out;omega))) (Or.inl (by have:=HGN.out;have:=HX.out;omega))) (Or.inl (by have:=HGN.out;have:=HX.out;omega))) (Or.inl (by have:=HGN.out;have:=HX.out;omega)));rw[hw12];clear hw12 HSM HTH HINx HNEx HBXx HGx HNE11 HBX11 HG11;have n1:=HBX12.out.cell 0 rfl;have f1:=HBX12.out.fz 0;go_wp2_with fail;go_roundw;(case rel=>exact⟨j+1,by omega,by go_num,Lh (HNE12.out.kept fun g _ (hg:X≤g)=>Qaa _ _ _ _ (by have:=HXB.out;omega)),Lh (by have h:=HBX12.out.set 0 (.int .i64 ((N:Int)+1));rwa [show((N:Int)+1)=((K+(j+1):Nat):Int) by have:=HN.out;omega] at h ⊢),Lh (QdE HG12.out (Or.inr rfl))⟩);case measure=>(first|(simp[intOf];done)|(simp[intOf];omega))
     ·go_wp2_with (first|(go_at_call 30;refine(HMY.out w8 N HG8.out).mono ?_;rw[HQB.out];rintro r w9 ⟨rfl,hb⟩;have HNE9:=Lh (HNE8.out.below hb);have HBX9:=Lh (HBX8.out.to hb);have HG9:=Lh (Qb5 HG8.out hb);have n1:=HBX9.out.cell 0 rfl;have f1:=HBX9.out.fz 0;clear hb h1 h2 h3 h4 n0)|fail)
      go_roundw;(case rel=>exact⟨j+1,by omega,by go_num,Lh (by rw[HMS.out HQB.out];exact HNE9.out.kept fun g _ (hg:X≤g)=>Qaa _ _ _ _ (by have:=HXB.out;omega)),Lh (by have h:=HBX9.out.set 0 (.int .i64 ((N:Int)+1));rwa [show((N:Int)+1)=((K+(j+1):Nat):Int) by have:=HN.out;omega] at h ⊢),Lh (QdE HG9.out (Or.inr rfl))⟩);case measure=>(first|(simp[intOf];done)|(simp[intOf];omega))
    ·obtain rfl:j=np:=by omega
     have hjI:¬(j:Int)<(j:Int):=(by omega);have HME:Hid ((outL q k0 n l i).set i (Qdk q K p j)=outL q k0 n l (i+1)):=Lh (by rw[midL_all q K (Nat.le_of_eq HNP.out),HON2.out]);rw[HME.out] at HNJ;go_wp2_with fail;go_roundw;(case rel=>exact⟨i+1,us5,by omega,by go_num,HNJ,Lh (by rw[HTS.out,←Nat.add_assoc,HK.out];exact HBJ.out),HGJ⟩);case measure=>(first|(simp[intOf];done)|(simp[intOf];omega))
  ·obtain rfl:i=n:=by omega
   have hKI:¬(i:Int)<(i:Int):=(by omega);have HE:Hid (outL q k0 i l i=shT q k0 l):=Lh (outL_all q k0 HL.out);have HTK:Hid (l.take i=l):=Lh (List.take_of_length_le (by rw[HL.out];exact Nat.le_refl _));rw[HE.out] at HNE;rw[HTK.out] at HBX;go_wp2_with fail;go_ret;exact⟨_,rfl,⟨us,HNE.out⟩,by have h:=HBX.out;rwa [Int.natCast_add] at h,HGR.out⟩
end Go.Proofs.YtegaapiocihcpaaGreatDoor
