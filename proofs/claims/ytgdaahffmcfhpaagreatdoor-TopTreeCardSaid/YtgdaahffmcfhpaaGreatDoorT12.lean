/- Lemmas on the way: Un Nd Vm. -/
import Derived.Test.YtgdaahffmcfhpaaGreatDoorT11
import Derived.Test.YtgdaahffmcfhpaaGreatDoorT00
set_option maxRecDepth 100000
set_option maxHeartbeats 8000000
namespace Go.Proofs.YtgdaahffmcfhpaaGreatDoor
open Tryz
section
open Go.RowKit
attribute [local go_sem] dO dL dQ dM
theorem CA:(prog.info? 9).map (fun i=>(i.zero,i.size,i.bytes))=some (some (.string ⟨#[]⟩),1,16):=by kernel_rfl
theorem Ek:Ms.MapTy prog Ms.sk 122 9 4 (.bool false):=Ms.MapTy.str (by kernel_rfl) (fun w=>by simp [go_sem]) (by kernel_rfl)
theorem CL (w:World):(Instr.makeMap 122 none).run prog w=.ok (.map (some w.heap.size)) (w.alloc (.map #[] 0)):=by simp [Instr.makeMap,go_sem]
abbrev CM (w:World) (b:Nat) (l:List By):Prop:=Ms.SetS prog w b l
def Wm (u:Uq) (s:By):By:=if s∈u.first then ez s (gV u.there s 90 1) else s
def rT (xs:List By) (k:Nat):Uq:=(xs.take k).foldl pZ ⟨xs,[],[]⟩
theorem CN (xs:List By) (k:Nat) (h:k < xs.length):rT xs (k+1)=pZ (rT xs k) xs[k]:=by
 unfold rT;rw [bF h,List.foldl_append];rfl
theorem Q1 (xs:List By):(rT xs xs.length).o=qb xs:=by
 unfold rT qb SI;rw [bz]
theorem uW {xs:List By} (hl:xs.length<=80):∀k,k<=xs.length->∃cs,lR xs (xs.take k) (xs.drop k) (rT xs k) cs
 |0,_=> ⟨[],lR.start xs⟩
 |k+1,h=>by
  obtain ⟨cs,h1⟩:=uW hl k (by omega);rw [List.drop_eq_getElem_cons (show k < xs.length by omega)] at h1;obtain ⟨cs',h2⟩:=h1.step hl;exact ⟨cs',by rw [CN _ _ (by omega),bF (by omega)];exact h2⟩
theorem Q2 {xs:List By} (hl:xs.length<=80) {k:Nat} (h:k < xs.length):
  (rT xs (k+1)).o=(rT xs k).o++[Wm (rT xs k) xs[k]]/\(∀x,x∈Wm (rT xs k) xs[k] :: (rT xs k).there↔x∈(rT xs (k+1)).there)/\(∀x,x∈xs[k] :: (rT xs k).first↔x∈(rT xs (k+1)).first):=by
 obtain ⟨cs,hi⟩:=uW hl k (ay h);rw [CN _ _ h];generalize hu:rT xs k=u at*;unfold pZ Wm;by_cases c:xs[k]∈u.first
 ·rw [if_pos c,if_pos c]
  refine ⟨rfl,fun x=>Iff.rfl,fun x=>?_⟩;simp only [aR];exact ⟨fun q=>q.elim (fun e=>e ▸ c) _root_.id,.inr⟩
 ·rw [if_neg c,if_neg c]
  refine ⟨rfl,fun x=>?_,fun x=>Iff.rfl⟩;have:xs[k]∈u.there:=(hi.theres _).2 (.inl (ag h));simp only [aR];exact ⟨fun q=>q.elim (fun e=>e ▸ this) _root_.id,.inr⟩
theorem Q3 {xs:List By} (hl:xs.length<=80) {k:Nat} (h:k<=xs.length) (s:By):ez s (gV (rT xs k).there s 90 1)∉(rT xs k).there/\1<=gV (rT xs k).there s 90 1/\gV (rT xs k).there s 90 1<=81/\∀j,1<=j->j < gV (rT xs k).there s 90 1->ez s j∈(rT xs k).there:=by
 obtain ⟨cs,hi⟩:=uW hl k h;exact hi.free hl s
structure xW (w0 wr:World) (M2:Nat) (v:Value) (u:Uq):Prop where
 gt:w0.heap.size < M2
 there:CM wr w0.heap.size u.there
 first:CM wr M2 u.first
 own:fZ wr (M2+1) v u.o
 below:Below w0.heap.size w0 wr
theorem xW.stay {w0 wr w':World} {M2:Nat} {v:Value} {u:Uq} (h:xW w0 wr M2 v u) (hb:Below wr.heap.size wr w'):xW w0 w' M2 v u:=
 ⟨h.gt,h.there.below hb,h.first.below hb,h.own.below hb,h.below.trans (hb.mono h.below.size)⟩
theorem xW.marks {w0 wr w1 w2:World} {M2:Nat} {v:Value} {u:Uq} (h:xW w0 wr M2 v u) {F T:List By} (h1:CM w1 M2 F) (g1:wr.grownBy w1 (some M2)) (h2:CM w2 w0.heap.size T) (g2:w1.grownBy w2 (some w0.heap.size)):
  CM w2 w0.heap.size T/\CM w2 M2 F/\fZ w2 (M2+1) v u.o/\Below w0.heap.size w0 w2:=by
 have hgt:=h.gt;have hown:∀(r:Nat),r<=M2->v.ownBlock=none\/v.ownBlock≠some r:=fun r hr=>by
  rcases hq:v.ownBlock with _|k
  ·exact .inl rfl
  ·exact .inr (by have:=(h.own.ge k hq).1;intro e;have:=aa e;omega)
 have b1:=ef h.below g1 (ay hgt) h.below.size;refine ⟨h2,h1.grown g2 (fun e=>by have:=aa e;omega),(h.own.kept g1 (hown M2 (aB _))).kept g2 (hown _ (ay hgt)),ef b1 g2 (aB _) b1.size⟩
theorem El (A:Option Addr) (n c:Nat) (xs:List By) (w:World) (hx:Strs w A n c xs) (hl:xs.length<=80) (hr:∀x∈xs,rightN x=true):
  Calls prog 95 #[.slice A n c] w fun e w'=>∃v,e=.returned (.tuple #[v,.int .i64 0])/\fZ w' w.heap.size v (qb xs)/\Below w.heap.size w w':=by
 obtain ⟨i0,jd,hz0,hz1,hz2⟩:=info_parts CA;have hn:=hx.len;have HX:=dH hx;have HI:=dH jd;have j9:=dH hz0;have gH:=dH hz1;have iH:=dH hz2;have HRi:dG (∀x∈xs,rightN x=true):=hr;have hm:=CL;have RR:decide ((n:Int) > 1000)=false:=decide_eq_false (by omega);have dR:=dH ((aC w.heap.size w).alloc (aB _) (.map #[] 0));clear hx jd hz0 hz1 hz2 hr;go_enter func95,ntmps95;go_wp2_with fail;go_loopw [21] (fun i wr=>∃k:Nat,i=.int .i64 k/\k<=n/\CM wr w.heap.size (xs.take k)/\Below w.heap.size w wr) (fun i _=>n - (intOf i).toNat)
 case atStart=>exact ⟨0,rfl,aT _,Ms.SetS.new _ w,dR.o⟩
 case round=>
  obtain ⟨k,rfl,hk,hS,hb⟩:=hrel;rcases aG k n with hlt|hge
  ·obtain ⟨b,off,rfl,jY,c0,Dh⟩:=Strs.at_ (HX.o.below hb) (by omega:k < xs.length)
   have Yl:=HRi.o xs[k] (ag _);have hT:dG (∀x,x∈xs[k]'(by omega) :: xs.take k↔x∈xs.take (k+1)):=fun x=>by
    rw [bF (by omega),aj,aU,aR];exact Or.comm
   generalize xs[k]=x at*;have hki:(k:Int) < (n:Int):=by omega
   have HR:=dH (oS x Dh wr);rw [mA Yl] at HR;have HB:=dH hb;have HS:=dH hS;clear hb hS Yl;go_wp2_with fail;refine HR.o.mono ?_;rintro e w2 ⟨rfl,dS⟩;obtain ⟨w3,e3,TK,hg3,hs3⟩:=Ms.SetS.add Ek (HS.o.below dS) x;have Fx:=dH (TK.iff hT.o);have dw:=dH (ef (HB.o.trans (dS.mono HB.o.size)) hg3 (aB _) (aK HB.o.size dS.size));clear TK hg3 hs3 dS;go_wp2_with fail;exact ⟨⟨k+1,by go_num,by omega,Fx.o,dw.o⟩,by simp [intOf];omega⟩
  ·have hkn:¬ (k:Int) < (n:Int):=by omega
   have HB:=dH hb;have hS':CM wr w.heap.size xs:=by rw [az (by omega)] at hS;exact hS
   have HS:=dH hS';clear hb hS hS';go_wp2_with fail;have Ws:xW w (wr.alloc (.map #[] 0)) wr.heap.size (.slice none 0 0) (rT xs 0):=
    ⟨HS.o.lt,HS.o.below ((aC _ wr).alloc (aB _) _),Ms.SetS.new _ wr,dN.nil_ _ _ _,HB.o.alloc HB.o.size _⟩
   obtain ⟨wa,GO⟩:=dB (wr.alloc (.map #[] 0));obtain ⟨M2,hM2⟩:=dB wr.heap.size;rw [<-GO,<-hM2] at Ws;have HT0:=dH Ws;rw [<-GO,<-hM2];clear Ws GO hM2 HS HB hkn hge hk dR;go_loopw [36,9] (fun i u wq=>∃k:Nat,i=.int .i64 k/\k<=n/\xW w wq M2 u (rT xs k)) (fun i _ _=>n - (intOf i).toNat)
   case atStart=>exact ⟨0,rfl,aT _,HT0.o⟩
   case round=>
    clear HT0;obtain ⟨k,rfl,hk,hT⟩:=hrel;rcases aG k n with hlt|hge
    ·obtain ⟨b,off,rfl,jY,c0,Dh⟩:=Strs.at_ (HX.o.below hT.below) (by omega:k < xs.length)
     have Yl:=HRi.o xs[k] (ag _);obtain ⟨q1,q2,q3⟩:=Q2 hl (show k < xs.length by omega);obtain ⟨f1,f2,f3,f4⟩:=Q3 hl (show k<=xs.length by omega) xs[k];have hU1:=dH (rfl:rT xs (k+1)=rT xs (k+1));have hol:(rT xs k).o.length=k:=by
      obtain ⟨cs,hinv⟩:=uW hl k (by omega);rw [hinv.len,aX];omega
     obtain ⟨U',hU'⟩:=dB (rT xs (k+1));rw [<-hU'] at q1 q2 q3;have HU':=dH hU';generalize rT xs k=U at*;generalize xs[k]=x at*;obtain ⟨gv,hgv⟩:=dB (Wm U x);rw [<-hgv] at q1 q2;obtain ⟨F,hF⟩:=dB (gV U.there x 90 1);rw [<-hF] at f1 f2 f3 f4;have Ym:x∈U.first->gv=ez x F:=fun h=>by rw [hgv];unfold Wm;rw [if_pos h,hF]
     have Yn:x∉U.first->gv=x:=fun h=>by rw [hgv];unfold Wm;rw [if_neg h]
     have sS:=dH Ym;have HG2:=dH Yn;have xM:=dH q1;have Ur:dG (∀y,y∈gv :: U.there↔y∈U'.there):=q2;have mW:dG (∀y,y∈x :: U.first↔y∈U'.first):=q3;have uf:=dH f1;have HF4:dG (∀j,1<=j->j < F->ez x j∈U.there):=f4;have HRx:=dH Yl;have hki:(k:Int) < (n:Int):=by omega
     obtain ⟨A2,c2,rfl⟩:=dN.isSlice hT.own;have PI:=dH hT;have PJ:=dH hol;clear hol hT hU' hgv hF Ym Yn q1 q2 q3 f1 f4 Yl hU1;go_wp2_with fail;go_loopw [12,13] (fun g j wq=>∃(m:Nat) (gn:By),g=.string (bs gn)/\j=.int .i64 m/\1<=m/\m<=F+1/\(m=1->gn=x)/\(2<=m->x∈U.first/\gn=ez x (m - 1))/\xW w wq M2 (.slice A2 U.o.length c2) U) (fun _ j _=>100 - (intOf j).toNat)
     case atStart=>exact ⟨1,x,rfl,rfl,aB _,by omega,fun _=>rfl,fun h=>absurd h (by decide),PI.o⟩
     case round=>
      clear PI;obtain ⟨m,gn,rfl,rfl,xN,hmF,hg1,hg2,hT⟩:=hrel;have Yo:=hT.first.look Ek x;have Yp:=hT.there.look Ek gn;by_cases cF:x∈U.first
      ·have hc1:decide (x∈U.first)=true:=decide_eq_true cF
       rw [hc1] at Yo;by_cases hm':m=1\/gn∈U.there
       ·have acQ:m < F+1:=by
         rcases hm' with h|h
         ·omega
         ·rcases aG m (F+1) with q|q
          ·exact q
          ·exfalso
           have:m=F+1:=by omega
           subst this;rw [(hg2 (by omega)).2,Nat.add_sub_cancel] at h;exact uf.o h
        have HC:=fun wz=>dH (LU x HRx.o m xN (by omega) wz)
        obtain ⟨cp,sj⟩:=dB (ez x m);simp only [<-sj] at HC;have hCz:∀wz,dG (Calls prog 154 #[.string (bs x),.int .i64 m] wz (dJ wz (.tuple #[.string (bs cp),.int .i64 0]))):=HC;have Wz:=dH sj;clear sj;have Us:dG ((m=1/\((m:Int) ==1)=true)\/(m≠1/\((m:Int) ==1)=false/\decide (gn∈U.there)=true)):=by
         show _\/_;rcases aG 1 m with q|q
         ·refine .inr ⟨by omega,by rw [beq_eq_false_iff_ne];omega,decide_eq_true (hm'.resolve_left (by omega))⟩
         ·refine .inl ⟨by omega,by rw [beq_iff_eq];omega⟩
        have HT:=dH hT;have HCF:=dH cF;clear HC hm' hT hg1 hg2 hc1 cF;rcases Us.o with ⟨aav,tX⟩| ⟨_,tX,hd2⟩
        ·have hC1:Calls prog 154 #[.string (bs x),.int .i64 1] wr (dJ wr (.tuple #[.string (bs cp),.int .i64 0])):=by
          have:=(hCz wr).o;rw [aav] at this;exact this
         have Bc:=dH hC1;clear hC1 aav;clear Us;go_wp2_with fail;refine (hCz wr).o.mono ?_;rintro e w2 ⟨rfl,dS⟩;have RM:=dH (HT.o.stay dS);clear dS;go_wp2_with fail;exact ⟨⟨m+1,cp,rfl,by go_num,by omega,by omega,fun h=>by omega,fun _=> ⟨HCF.o,Wz.o⟩,RM.o⟩,by simp [intOf];omega⟩
        ·rw [hd2] at Yp
         clear Us;go_wp2_with fail;refine (hCz wr).o.mono ?_;rintro e w2 ⟨rfl,dS⟩;have RM:=dH (HT.o.stay dS);clear dS;go_wp2_with fail;exact ⟨⟨m+1,cp,rfl,by go_num,by omega,by omega,fun h=>by omega,fun _=> ⟨HCF.o,Wz.o⟩,RM.o⟩,by simp [intOf];omega⟩
       ·have hm2:2<=m:=by omega
        have Un:gn∉U.there:=fun h=>hm' (.inr h)
        have Yq:gn=gv:=by
         rw [sS.o cF,(hg2 hm2).2];congr 1;rcases aG (m - 1) F with q|q
         ·exact absurd (HF4.o (m - 1) (by omega) q) (by rw [<-(hg2 hm2).2];exact Un)
         ·omega
        have tX:((m:Int) ==1)=false:=by rw [beq_eq_false_iff_ne];omega
        have hd2:decide (gn∈U.there)=false:=decide_eq_false Un;rw [hd2] at Yp;subst Yq;have HT:=dH hT;clear hT hg1 hg2 hm' Un cF hc1;have K7:=HT.o;obtain ⟨w3,e3,TK,hg3,hs3⟩:=Ms.SetS.add Ek K7.first x;obtain ⟨w4,e4,hS4,hg4,hs4⟩:=Ms.SetS.add Ek (K7.there.grown hg3 (fun e=>by have:=aa e;have:=K7.gt;omega)) gn;obtain ⟨m1,m2,m3,m4⟩:=K7.marks TK hg3 hS4 hg4;have hgt:=K7.gt;have hms:M2 < w4.heap.size:=m2.lt;have Nv:=dH ((m1.iff Ur.o).alloc (.cells #[.string (bs gn)] 9));have RM:=dH ((m2.iff mW.o).alloc (.cells #[.string (bs gn)] 9));have HO:=dH (dN.alloc m3 (.cells #[.string (bs gn)] 9));have HB:=dH (m4.alloc m4.size (.cells #[.string (bs gn)] 9));clear K7 TK hg3 hS4 hg4 hs3 hs4 m1 m2 m3 m4;go_wp2_with (at_builtin;refine dZ _ rfl (.tmp 68) (.tmp 70) 99 99 rfl 9 i0 (.string ⟨#[]⟩) 1 underlying99 HI.o j9.o gH.o rfl (by decide) (M2+1) _ U.o.length (strs U.o) rfl HO.o (.slice (some ⟨w4.heap.size,0,none⟩) 1 1) rfl 1 [.string (bs gn)] ?c1 ?c3 ?c4 ?c5 ?_)
        case c1=>exact Src.one underlying99 (by simp [go_sem]) rfl
        case c3=>have:=PJ.o;unfold maxLen;omega
        case c4=>have:=PJ.o;rw [iH.o];omega
        case c5=>simp;omega
        intro v' w5 hown hgrow gE;have hne:∀r,r<=M2->some r≠(Value.slice A2 U.o.length c2).ownBlock:=fun r hr e=>by have:=(HO.o.ge _ e.symm).1;omega
        have HTn:dG (xW w w5 M2 v' U'):=⟨hgt,Nv.o.grown hgrow (hne _ (ay hgt)),RM.o.grown hgrow (hne _ (aB _)),by rw [xM.o];exact fZ.snoc hown,lU HB.o (by omega) (by simp;omega) HO.o hgrow⟩;clear hown hgrow gE hne;go_wp2_with fail;exact ⟨⟨k+1,by go_num,by omega,by rw [<-HU'.o];exact HTn.o⟩,by simp [intOf];omega⟩
      ·have hc1:decide (x∈U.first)=false:=decide_eq_false cF
       rw [hc1] at Yo;have Yq:gn=gv:=by
        rcases aG 1 m with q|q
        ·exact absurd (hg2 q).1 cF
        ·rw [HG2.o cF,hg1 (by omega)]
       subst Yq;have HT:=dH hT;clear hT hg1 hg2 cF hc1;have K7:=HT.o;obtain ⟨w3,e3,TK,hg3,hs3⟩:=Ms.SetS.add Ek K7.first x;obtain ⟨w4,e4,hS4,hg4,hs4⟩:=Ms.SetS.add Ek (K7.there.grown hg3 (fun e=>by have:=aa e;have:=K7.gt;omega)) gn;obtain ⟨m1,m2,m3,m4⟩:=K7.marks TK hg3 hS4 hg4;have hgt:=K7.gt;have hms:M2 < w4.heap.size:=m2.lt;have Nv:=dH ((m1.iff Ur.o).alloc (.cells #[.string (bs gn)] 9));have RM:=dH ((m2.iff mW.o).alloc (.cells #[.string (bs gn)] 9));have HO:=dH (dN.alloc m3 (.cells #[.string (bs gn)] 9));have HB:=dH (m4.alloc m4.size (.cells #[.string (bs gn)] 9));clear K7 TK hg3 hS4 hg4 hs3 hs4 m1 m2 m3 m4;go_wp2_with (at_builtin;refine dZ _ rfl (.tmp 68) (.tmp 70) 99 99 rfl 9 i0 (.string ⟨#[]⟩) 1 underlying99 HI.o j9.o gH.o rfl (by decide) (M2+1) _ U.o.length (strs U.o) rfl HO.o (.slice (some ⟨w4.heap.size,0,none⟩) 1 1) rfl 1 [.string (bs gn)] ?c1 ?c3 ?c4 ?c5 ?_)
       case c1=>exact Src.one underlying99 (by simp [go_sem]) rfl
       case c3=>have:=PJ.o;unfold maxLen;omega
       case c4=>have:=PJ.o;rw [iH.o];omega
       case c5=>simp;omega
       intro v' w5 hown hgrow gE;have hne:∀r,r<=M2->some r≠(Value.slice A2 U.o.length c2).ownBlock:=fun r hr e=>by have:=(HO.o.ge _ e.symm).1;omega
       have HTn:dG (xW w w5 M2 v' U'):=⟨hgt,Nv.o.grown hgrow (hne _ (ay hgt)),RM.o.grown hgrow (hne _ (aB _)),by rw [xM.o];exact fZ.snoc hown,lU HB.o (by omega) (by simp;omega) HO.o hgrow⟩;clear hown hgrow gE hne;go_wp2_with fail;exact ⟨⟨k+1,by go_num,by omega,by rw [<-HU'.o];exact HTn.o⟩,by simp [intOf];omega⟩
    ·obtain rfl:k=n:=by omega
     have hkn:¬ (k:Int) < (k:Int):=by omega
     have HO:=dH (hT.own.mono (aK (ay hT.gt) (bC M2)));have HB:=dH hT.below;obtain ⟨A2,c2,rfl⟩:=dN.isSlice hT.own;have HN:=dH hn;clear hT hn;go_wp2_with fail;go_ret2;refine ⟨_,rfl,?_,HB.o⟩;rw [<-Q1,HN.o];exact HO.o
theorem Q4 {xs:List Nd} {k:Nat} (h:k < xs.length):(xs.take (k+1)).map Nd.nm=(xs.take k).map Nd.nm++[xs[k].nm]:=by
 rw [bF h,bV];rfl
theorem Ip (A:Option Addr) (n c:Nat) (xs:List Nd) (w:World) (hx:lq w A n c xs) (hl:xs.length<=80) (hr:∀x∈xs,rightN x.nm=true):
  Calls prog 46 #[.slice A n c] w fun e w'=>∃v,e=.returned (.tuple #[v,.int .i64 0])/\fZ w' w.heap.size v (qb (xs.map Nd.nm))/\Below w.heap.size w w':=by
 obtain ⟨i0,jd,hz0,hz1,hz2⟩:=info_parts CA;have hn:=hx.len;have hsh:=hx.short;have HX:=dH hx;have HI:=dH jd;have j9:=dH hz0;have gH:=dH hz1;have iH:=dH hz2;have HR:dG (∀x∈xs.map Nd.nm,rightN x=true):=fun x h=>by
  obtain ⟨y,hy,rfl⟩:=aV.1 h;exact hr y hy
 have BD:dG (me (xs.map Nd.nm)):=fun x h=>by
  obtain ⟨y,hy,rfl⟩:=aV.1 h;exact (hsh y hy).1
 clear hx jd hz0 hz1 hz2 hr hsh;go_enter func46,ntmps46;go_wp2_with fail;go_loopw [9,4] (fun i u wr=>∃k:Nat,i=.int .i64 k/\k<=n/\fZ wr w.heap.size u ((xs.take k).map Nd.nm)/\Below w.heap.size w wr) (fun i _ _=>n - (intOf i).toNat)
 case atStart=>exact ⟨0,rfl,aT _,dN.nil_ _ _ _,aC _ _⟩
 case round=>
  obtain ⟨k,rfl,hk,hO,hb⟩:=hrel;rcases aG k n with hlt|hge
  ·obtain ⟨b,off,rfl,jY,c0,c1,c2,c3,c4,c5,c6,_⟩:=lq.at_ (HX.o.below hb) (by omega:k < xs.length)
   have HT:=dH (Q4 (show k < xs.length by omega));have hol:((xs.take k).map Nd.nm).length<=80:=by rw [bM,aX];omega
   have PJ:=dH hol;generalize hL:(xs.take k).map Nd.nm=L at*;generalize xs[k]=x at*;have hki:(k:Int) < (n:Int):=by omega
   obtain ⟨A2,cc2,rfl⟩:=dN.isSlice hO;have Ww:=dN.alloc hO (.cells #[.int .i64 x.id.1,.int .i64 x.id.2,.bool x.dir,.int .i64 x.par.1,.int .i64 x.par.2,.string (bs x.nm),.string (bs x.mf)] 38);have dS:=hb.alloc hb.size (.cells #[.int .i64 x.id.1,.int .i64 x.id.2,.bool x.dir,.int .i64 x.par.1,.int .i64 x.par.2,.string (bs x.nm),.string (bs x.mf)] 38);have pE:=dH (dN.alloc Ww (.cells #[.string (bs x.nm)] 9));have dw:=dH (dS.alloc dS.size (.cells #[.string (bs x.nm)] 9));clear hO Ww hb dS hol hL;go_wp2_with (at_builtin;refine dZ _ rfl (.tmp 13) (.tmp 16) 99 99 rfl 9 i0 (.string ⟨#[]⟩) 1 underlying99 HI.o j9.o gH.o rfl (by decide) w.heap.size _ L.length (strs L) rfl pE.o (.slice (some ⟨wr.heap.size+1,0,none⟩) 1 1) rfl 1 [.string (bs x.nm)] ?c1 ?c3 ?c4 ?c5 ?_)
   case c1=>exact Src.one underlying99 (by simp [go_sem]) rfl
   case c3=>have:=PJ.o;unfold maxLen;omega
   case c4=>have:=PJ.o;rw [iH.o];omega
   case c5=>exact dw.o.size
   intro v' w5 hown hgrow gE;have K0:=dH (fZ.snoc hown);have tW:=dH (lU dw.o (aB _) dw.o.size pE.o hgrow);clear hown hgrow gE;go_wp2_with fail;exact ⟨⟨k+1,by go_num,by omega,by rw [HT.o];exact K0.o,tW.o⟩,by simp [intOf];omega⟩
  ·obtain rfl:k=n:=by omega
   have hkn:¬ (k:Int) < (k:Int):=by omega
   rw [az (by omega)] at hO;obtain ⟨A2,c2,hv,hS⟩:=fZ.strs hO BD.o;rw [bM,hn] at hv hS;subst hv;have HU:=dH (El A2 _ c2 _ wr hS (by rw [bM];omega) HR.o);have HB:=dH hb;clear hO hS hb;go_wp2_with fail;refine HU.o.mono ?_;rintro e w2 ⟨v,rfl,ho,dS⟩;obtain ⟨A3,c3,rfl⟩:=dN.isSlice ho;have yD:=dH (ho.mono HB.o.size);have eG:=dF HB dS;clear ho dS;go_wp2_with fail;go_ret2;exact ⟨_,rfl,yD.o,eG.o⟩
end
section
open Go.RowKit
def ic (x:It):List Value:=[.string (bs x.path),.int .i64 x.id.1,.int .i64 x.id.2,.bool x.dir,.bool false,.string (bs x.mf)]
def EF (l:List It):List Value:=l.flatMap ic
theorem Ld (l:List It) (x:It):EF (l++[x])=EF l++ic x:=by simp [EF]
theorem Q5 (l:List It):(EF l).length=l.length*6:=by
 induction l with
 |nil=>rfl
 |cons x l ih=>simp only [EF,au,aO,aQ] at ih ⊢;rw [ih];simp [ic];omega
theorem Le (x:It):∀u∈ic x,u.oneCell'=true:=by
 intro u hu;simp [ic] at hu;rcases hu with rfl|rfl|rfl|rfl|rfl|rfl <;> rfl
structure KV (bo M:Nat) (w w':World) (u u':Value):Prop where
 base:Below 0 w w'
 block:∀g,g < w.heap.size->g≠bo->g≠M->u.ownBlock≠some g->w'.heap[g]? =w.heap[g]?
 own:u'.ownBlock=u.ownBlock\/∃k,u'.ownBlock=some k/\w.heap.size<=k
section
variable {bo M:Nat} {a b c w w':World} {u v x u':Value}
theorem KV.refl (bo M:Nat) (w:World) (u:Value):KV bo M w w u u:=⟨aC _ _,fun _ _ _ _ _=>rfl,.inl rfl⟩
theorem KV.ne (h:KV bo M a b u v) {g:Nat} (hg:g < a.heap.size) (h3:u.ownBlock≠some g):v.ownBlock≠some g:=by
 rcases h.own with e| ⟨k,e,hk⟩
 ·rw [e];exact h3
 ·rw [e];intro e2;have:=aa e2;omega
theorem KV.trans (h:KV bo M a b u v) (k:KV bo M b c v x):KV bo M a c u x:=
 ⟨h.base.trans k.base,fun g hg h1 h2 h3=>(k.block g (aN hg h.base.size) h1 h2 (h.ne hg h3)).trans (h.block g hg h1 h2 h3),by
  rcases k.own with e| ⟨q,e,hq⟩
  ·rcases h.own with e2| ⟨q,e2,hq⟩
   ·exact .inl (e.trans e2)
   ·exact .inr ⟨q,e.trans e2,hq⟩
  ·exact .inr ⟨q,e,aK h.base.size hq⟩⟩
theorem KV.of_below (hb:Below w.heap.size w w'):KV bo M w w' u u:=⟨hb.mono (aT _),fun g hg _ _ _=>hb.block g hg,.inl rfl⟩
theorem KV.below (h:KV bo M a b u v) (hb:Below b.heap.size b c):KV bo M a c u v:=h.trans (KV.of_below hb)
theorem KV.mark (h:KV bo M a b u v) (hg:b.grownBy c (some M)):KV bo M a c u v:=
 h.trans ⟨⟨hg.os,hg.tape,hg.output,hg.size,fun _ h=>absurd h (Nat.not_lt_zero _)⟩,fun g hlt _ h2 _=>hg.block g hlt (fun e=>h2 (aa e)),.inl rfl⟩
theorem KV.push (h:KV bo M a b u v) (hg:b.grownBy c v.ownBlock) (gE:x.ownBlock=v.ownBlock\/x.ownBlock=some b.heap.size):KV bo M a c u x:=
 h.trans ⟨⟨hg.os,hg.tape,hg.output,hg.size,fun _ h=>absurd h (Nat.not_lt_zero _)⟩,fun g hlt _ _ h3=>hg.block g hlt (fun e=>h3 e.symm),gE.elim .inl fun e=>.inr ⟨_,e,aB _⟩⟩
theorem KV.store (h:KV bo M a b u v) (y:Value):KV bo M a (b.setCell ⟨bo,0,none⟩ y) u v:=
 h.trans ⟨(aC 0 b).setCell (aT _) y,fun g _ h1 _ _=>bx b ⟨bo,0,none⟩ y g h1,.inl rfl⟩
theorem dN.keepV {B size n:Nat} {xs:List Value} (h:dN w B size v n xs) (k:KV bo M w w' u u') (h1:v.ownBlock≠some bo) (h2:v.ownBlock≠some M) (h3:∀g,v.ownBlock=some g->u.ownBlock≠some g):dN w' B size v n xs:=by
 refine ⟨h.1,?_⟩;rcases h.2 with hn| ⟨g,cap,rfl,hb,hlt,hnc,hcm,hs,hf,hx⟩
 ·exact .inl hn
 ·have hblk:w'.heap[g]? =w.heap[g]?:=k.block g hlt (fun e=>h1 (by simp [Value.ownBlock,e])) (fun e=>h2 (by simp [Value.ownBlock,e])) (h3 g (by simp [Value.ownBlock]))
  have hc:∀j,w'.cell? ⟨g,j,none⟩=w.cell? ⟨g,j,none⟩:=fun j=>aI (a:=⟨g,j,none⟩) hblk
  have hz:∀j,w'.frozen? ⟨g,j,none⟩=w.frozen? ⟨g,j,none⟩:=fun j=>World.frozen?_of_block (a:=⟨g,j,none⟩) hblk
  exact .inr ⟨g,cap,rfl,hb,aN hlt k.base.size,hnc,hcm,fun j hj=>by rw [hc];exact hs j hj,fun j hj=>by rw [hz];exact hf j hj,fun j u hu=>by rw [hc];exact hx j u hu⟩
end
theorem Blk.ne {w:World} {a b:Nat} {t t':TypeId} {cs cs':Array Value} (h:Blk w a t cs) (k:Blk w b t' cs') (ht:t≠t'):a≠b:=by
 rintro rfl;unfold Blk at h k;rw [h] at k;injection k with e
 injection e with e1 e2
 exact ht e2
theorem Met.ne {w:World} {M a:Nat} {l:List St} {t:TypeId} {cs:Array Value} (h:Met w M l) (k:Blk w a t cs):a≠M:=by
 rintro rfl;obtain ⟨f,⟨ms,ck,hb,_⟩,_⟩:=h;unfold Blk at k;rw [hb] at k;cases k
def nx (bn bm bo bd:Nat):Value:=.func (.func 44) #[] #[.pointer (some ⟨bn,0,none⟩),.pointer (some ⟨bm,0,none⟩),.pointer (some ⟨bo,0,none⟩),.pointer (some ⟨bd,0,none⟩)]
structure VI (w0 w:World) (bn bm bo bd M B1:Nat) (nv u:Value) (v:Vw):Prop where
 below:Below w0.heap.size w0 w
 ge:w0.heap.size<=bn/\w0.heap.size<=bm/\w0.heap.size<=bo/\w0.heap.size<=bd/\w0.heap.size<=M
 lt:bn < B1/\bm < B1/\bo < B1/\bd < B1/\M < B1
 hB:B1<=w.heap.size
 nb:Blk w bn 33 #[nv]
 mb:Blk w bm 96 #[.map (some M)]
 ob:Blk w bo 40 #[u]
 db:Blk w bd 97 #[nx bn bm bo bd]
 met:Met w M v.met
 own:dN w B1 6 u v.o.length (EF v.o)
section
variable {w0 w w':World} {bn bm bo bd M B1:Nat} {nv u u':Value} {v v':Vw}
theorem VI.own_ne (h:VI w0 w bn bm bo bd M B1 nv u v) {g:Nat} (hg:g < B1):u.ownBlock≠some g:=fun e=>by have:=(h.own.ge g e).1;omega
theorem VI.stay (h:VI w0 w bn bm bo bd M B1 nv u v) (hb:Below w.heap.size w w'):VI w0 w' bn bm bo bd M B1 nv u v:=
 ⟨h.below.trans (hb.mono h.below.size),h.ge,h.lt,aK h.hB hb.size,h.nb.below hb h.nb.lt,h.mb.below hb h.mb.lt,h.ob.below hb h.ob.lt,h.db.below hb h.db.lt,h.met.heap (hb.block M h.met.lt),h.own.below hb⟩
theorem VI.drew (h:VI w0 w bn bm bo bd M B1 nv u v):VI w0 w.drew bn bm bo bd M B1 nv u v:=h.stay (aC _ w).drew
theorem VI.alloc (h:VI w0 w bn bm bo bd M B1 nv u v) (o:Obj):VI w0 (w.alloc o) bn bm bo bd M B1 nv u v:=h.stay ((aC _ w).alloc (aB _) o)
theorem VI.mark (h:VI w0 w bn bm bo bd M B1 nv u v) {l:List St} (hm:Met w' M l) (hg:w.grownBy w' (some M)):VI w0 w' bn bm bo bd M B1 nv u ⟨l,v.o⟩:=by
 have e:∀{g:Nat},g≠M->some g≠some M:=fun hne q=>hne (aa q)
 refine ⟨ef h.below hg h.ge.2.2.2.2 h.below.size,h.ge,h.lt,aK h.hB hg.size,h.nb.grown hg (e (h.met.ne h.nb)),h.mb.grown hg (e (h.met.ne h.mb)),h.ob.grown hg (e (h.met.ne h.ob)),h.db.grown hg (e (h.met.ne h.db)),hm,h.own.kept hg ?_⟩;exact .inr (h.own_ne h.lt.2.2.2.2)
theorem VI.push (h:VI w0 w bn bm bo bd M B1 nv u v) {x:It} (ho:dN w' B1 6 u' (v.o.length+1) (EF v.o++ic x)) (hg:w.grownBy w' u.ownBlock):VI w0 (w'.setCell ⟨bo,0,none⟩ u') bn bm bo bd M B1 nv u' ⟨v.met,v.o++[x]⟩:=by
 have q:∀{g:Nat},g < B1->some g≠u.ownBlock:=fun hl e=>h.own_ne hl e.symm
 obtain ⟨l1,l2,l3,l4,l5⟩:=h.lt;have n1:=h.nb.ne h.ob (by decide);have n2:=h.mb.ne h.ob (by decide);have n4:=h.db.ne h.ob (by decide);have n5:M≠bo:=(h.met.ne h.ob).symm;refine ⟨(h.below.grown hg h.below.size (fun k e=>by have:=(h.own.ge k e).1;have:=h.ge.1;omega)).setCell h.ge.2.2.1 _,h.ge,h.lt,by simp;exact aK h.hB hg.size,(h.nb.grown hg (q l1)).far n1 _,(h.mb.grown hg (q l2)).far n2 _,?_,(h.db.grown hg (q l4)).far n4 _,?_,?_⟩
 ·have:=Blk.set_ (h.ob.grown hg (q l3)) 0 u'
  simpa using this
 ·exact h.met.heap ((bx w' ⟨bo,0,none⟩ u' M n5).trans (hg.block M h.met.lt (q l5)))
 ·have:=ho
  have hne:∀k,u'.ownBlock=some k->k≠bo:=fun k e=>by have:=(ho.ge k e).1;omega
  rw [show (v.o++[x]).length=v.o.length+1 by simp,Ld];refine ⟨ho.1,?_⟩;rcases ho.2 with hn| ⟨g,cap,rfl,hb,hlt,hnc,hcm,hs,hf,hx⟩
  ·exact .inl hn
  ·have Us:g≠bo:=hne g (by simp [Value.ownBlock])
   have hblk:=bx w' ⟨bo,0,none⟩ (.slice (some ⟨g,0,none⟩) (v.o.length+1) cap) g Us;have hc:∀j,(w'.setCell ⟨bo,0,none⟩ (.slice (some ⟨g,0,none⟩) (v.o.length+1) cap)).cell? ⟨g,j,none⟩=w'.cell? ⟨g,j,none⟩:=fun j=>aI (a:=⟨g,j,none⟩) hblk
   have hz:∀j,(w'.setCell ⟨bo,0,none⟩ (.slice (some ⟨g,0,none⟩) (v.o.length+1) cap)).frozen? ⟨g,j,none⟩=w'.frozen? ⟨g,j,none⟩:=fun j=>World.frozen?_of_block (a:=⟨g,j,none⟩) hblk
   exact .inr ⟨g,cap,rfl,hb,by simpa using hlt,hnc,hcm,fun j hj=>by rw [hc];exact hs j hj,fun j hj=>by rw [hz];exact hf j hj,fun j u hu=>by rw [hc];exact hx j u hu⟩
end
structure Lf (xs:List Nd) (v:Vw):Prop where
 nodup:v.met.Nodup
 len:v.met.length=v.o.length
 sub:∀i∈v.met,i∈xs.map Nd.id
theorem Lf.le {xs:List Nd} {v:Vw} (h:Lf xs v):v.o.length<=xs.length:=by
 rw [<-h.len,<-bM (f:=Nd.id)];exact jJ h.nodup h.sub
theorem Lf.push {xs:List Nd} {v:Vw} (h:Lf xs v) {n:Nd} (hn:n∈xs) (hm:n.id∉v.met) (x:It):Lf xs ⟨v.met++[n.id],v.o++[x]⟩:=
 ⟨cS.2 ⟨h.nodup,by simp,fun a ha b hb e=>hm (by rw [<-aU.1 hb,<-e];exact ha)⟩,by simp [h.len],fun i hi=>by
  rcases aj.1 hi with h1|h1
  ·exact h.sub i h1
  ·rw [aU.1 h1];exact aV.2 ⟨n,hn,rfl⟩⟩
def vU (k:Nat) (ahead:By):List (Nd×By)->Vw->Option Vw
 | [],v=>some v
 |q :: r,v=>if k=0\/q.1.id∈v.met then none else vU k ahead r ⟨v.met++[q.1.id],v.o++[jf ahead q]⟩
def gK (xs:List Nd):Nat->St->By->Vw->Option Vw
 |0=>fun _ _ _=>none
 |k+1=>ij xs k
theorem ye (k:Nat) (ahead:By):∀(l:List (Nd×By)) (v:Vw),vU (k+1) ahead l v=CE ahead l v
 | [],v=>rfl
 |q :: r,v=>by
  rw [vU,CE,ye k ahead r];by_cases c:q.1.id∈v.met
  ·rw [if_pos c,if_pos (.inr c)]
  ·rw [if_neg c,if_neg (fun h=>h.elim (by omega) c)]
theorem vV (xs:List Nd) (hx:xs.length<=80) (s:St):(jU xs s).length=(fc s xs).length/\(jK xs s).length=(fc s xs).length:=by
 have h1:=uV s xs;have h2:(jK xs s).length=(fc s xs).length:=by
  unfold jK;rw [(rY (l:=(fc s xs).map Nd.nm) (by rw [bM];omega)).1,bM]
 refine ⟨?_,h2⟩;unfold jU;rw [List.length_zip,h2];omega
theorem Q6 (xs:List Nd) (hx:xs.length<=80) (k:Nat) (s:St) (ahead:By) (v:Vw):ij xs k s ahead v=(vU k ahead (jU xs s) v).bind (kW (gK xs k) ahead (jU xs s)):=by
 cases k with
 |succ k=>rw [ij,ye];rfl
 |zero=>
  rw [ij];by_cases c:fc s xs=[]
  ·have:jU xs s=[]:=bH (by rw [(vV xs hx s).1,c];rfl)
   rw [if_pos c,this];rfl
  ·rw [if_neg c]
   cases hg:jU xs s with
   |nil=>exact absurd (bH (by rw [<-(vV xs hx s).1,hg];rfl)) c
   |cons q r=>rw [vU,if_pos (.inl rfl)];rfl
end
end Go.Proofs.YtgdaahffmcfhpaaGreatDoor
