/- Lemmas on the way:Vd. -/
import Derived.Test.YtgdaahffmcfhpaaGreatDoorT12
import Derived.Test.YtgdaahffmcfhpaaGreatDoorT18
import Derived.Test.YtgdaahffmcfhpaaGreatDoorT00
set_option maxRecDepth 100000
set_option maxHeartbeats 8000000
namespace Go.Proofs.YtgdaahffmcfhpaaGreatDoor
open Tryz
section
open Go.RowKit
attribute [local go_sem] dO dL dQ dM
theorem Tg:(prog.info? 44).map (fun i=>(i.zero,i.size,i.bytes))=some (some (.agg #[.string ⟨#[]⟩,.int .i64 0,.int .i64 0,.bool false,.bool false,.string ⟨#[]⟩]),6,56):=by kernel_rfl
theorem Src.it {w:World} {g c:Nat} (x:It) (h:Blk w g 44 (ic x).toArray):Src prog 6 40 (.slice (some ⟨g,0,none⟩) 1 c) 1 (ic x) w:=
 Src.ofSlice w underlying40 ⟨g,0,none⟩ 1 c (ic x) rfl (fun j u hu=>by
  have:(Addr.mk g 0 none).add j= ⟨g,j,none⟩:=by unfold Addr.add;split <;> simp_all
  rw [this,h.cell];simpa using hu) (Le x)
theorem VI.list {w0 w w2 wr:World} {bn bm bo bd M B1:Nat} {nv u ur:Value} {v:Vw} (h:VI w0 w bn bm bo bd M B1 nv u v) {size n:Nat} {vl:Value} {cs:List Value} (ho:dN w2 w.heap.size size vl n cs) (k:KV bo M w2 wr u ur):dN wr w.heap.size size vl n cs:=by
 obtain ⟨l1,l2,l3,l4,l5⟩:=h.lt;have hB:=h.hB;refine ho.keepV k (fun e=>?_) (fun e=>?_) (fun g e e2=>?_)
 ·have:=(ho.ge _ e).1;omega
 ·have:=(ho.ge _ e).1;omega
 ·have:=(ho.ge _ e).1;have:=(h.own.ge _ e2).2;omega
theorem Own.nds' {w:World} {B c:Nat} {A:Option Addr} {xs:List Nd} (h:dN w B 7 (.slice A xs.length c) xs.length (jB xs)) (hs:Short xs):lq w A xs.length c xs:=by
 obtain ⟨A',c',e,h'⟩:=Own.nds h hs;injection e with e1 e2 e3
 subst e1 e3;exact h'
theorem fZ.strs' {w:World} {B c n:Nat} {A:Option Addr} {xs:List By} (hn:xs.length=n) (h:dN w B 1 (.slice A n c) xs.length (Go.Proofs.YtgdaahffmcfhpaaGreatDoor.strs xs)) (hs:me xs):Strs w A n c xs:=by
 subst hn;obtain ⟨A',c',e,h'⟩:=fZ.strs h hs;injection e with e1 e2 e3
 subst e1 e3;exact h'
def mG (B:Nat) (x:Nd) (b2 o2:Nat) (g:By) (w:World):Prop:=
 w.cell? ⟨B,0,none⟩=some (.int .i64 x.id.1)/\w.cell? ⟨B,1,none⟩=some (.int .i64 x.id.2)/\w.cell? ⟨B,2,none⟩=some (.bool x.dir)/\w.cell? ⟨B,6,none⟩=some (.string (bs x.mf))/\w.cell? ⟨b2,o2,none⟩=some (.string (bs g))
theorem mG.cells {B:Nat} {x:Nd} {b2 o2:Nat} {g:By} {w:World} (h:mG B x b2 o2 g w):
  w.cell? ⟨B,0,none⟩=some (.int .i64 x.id.1)/\w.cell? ⟨B,1,none⟩=some (.int .i64 x.id.2)/\w.cell? ⟨B,2,none⟩=some (.bool x.dir)/\w.cell? ⟨B,6,none⟩=some (.string (bs x.mf))/\w.cell? ⟨b2,o2,none⟩=some (.string (bs g)):=h
theorem mG.of_heap {B:Nat} {x:Nd} {b2 o2:Nat} {g:By} {w w':World} (h:mG B x b2 o2 g w) (h1:w'.heap[B]? =w.heap[B]?) (h2:w'.heap[b2]? =w.heap[b2]?):mG B x b2 o2 g w':=by
 obtain ⟨a,b,c,d,e⟩:=h;have k1:∀j,w'.cell? ⟨B,j,none⟩=w.cell? ⟨B,j,none⟩:=fun j=>aI (a:=⟨B,j,none⟩) h1
 have k2:∀j,w'.cell? ⟨b2,j,none⟩=w.cell? ⟨b2,j,none⟩:=fun j=>aI (a:=⟨b2,j,none⟩) h2
 exact ⟨(k1 _).trans a,(k1 _).trans b,(k1 _).trans c,(k1 _).trans d,(k2 _).trans e⟩
def Ly (xs:List Nd) (w0 w:World) (bn bm bo bd M B1:Nat) (nv u:Value) (r:Option Vw) (e:Ending) (w':World):Prop:=
 (∃v' u',r=some v'/\e=.returned (.int .i64 0)/\VI w0 w' bn bm bo bd M B1 nv u' v'/\Lf xs v'/\KV bo M w w' u u')\/(r=none/\e=.returned (.int .i64 40)/\Below w0.heap.size w0 w')
theorem yu (xs:List Nd) (A:Option Addr) (n c:Nat) (w0:World) (hx0:lq w0 A n c xs) (hl:xs.length<=80) (hr:∀x∈xs,rightN x.nm=true) (bn bm bo bd M B1:Nat) (k dp:Nat) (hk:dp+k=16)
  (BT:0 < k->∀(s:St) (ahead:By) (u:Value) (v:Vw) (w:World),ahead.length<=25*(dp+1)->VI w0 w bn bm bo bd M B1 (.slice A n c) u v->Lf xs v->
   Calls prog 44 #[.agg #[.int .i64 s.1,.int .i64 s.2],.string (bs ahead),.int .i64 ((dp:Int)+1),.pointer (some ⟨bn,0,none⟩),.pointer (some ⟨bm,0,none⟩),.pointer (some ⟨bo,0,none⟩),.pointer (some ⟨bd,0,none⟩)] w (Ly xs w0 w bn bm bo bd M B1 (.slice A n c) u (gK xs k s ahead v)))
  (s:St) (ahead:By) (u:Value) (v:Vw) (w:World) (ha:ahead.length<=25*dp) (hV:VI w0 w bn bm bo bd M B1 (.slice A n c) u v) (hB:Lf xs v):
  Calls prog 44 #[.agg #[.int .i64 s.1,.int .i64 s.2],.string (bs ahead),.int .i64 (dp:Int),.pointer (some ⟨bn,0,none⟩),.pointer (some ⟨bm,0,none⟩),.pointer (some ⟨bo,0,none⟩),.pointer (some ⟨bd,0,none⟩)] w (Ly xs w0 w bn bm bo bd M B1 (.slice A n c) u (ij xs k s ahead v)):=by
 obtain ⟨i0,jd,hz0,hz1,hz2⟩:=info_parts Tg;have Jz:=hx0.len;have O7:=hx0.short;have HI:=dH jd;have j9:=dH hz0;have gH:=dH hz1;have iH:=dH hz2;have Hq:=dH hx0;have abp:dG _:=BT;have HRn:dG (∀x∈xs,rightN x.nm=true):=hr;have X2:dG (Short xs):=O7;have hDE:dG (ij xs k s ahead v=(vU k ahead (jU xs s) v).bind (kW (gK xs k) ahead (jU xs s))):=Q6 xs hl k s ahead v;obtain ⟨hkl,pS⟩:=vV xs hl s;have hks:dG (∀x∈fc s xs,x∈xs):=fun x h=>(List.mem_filter.1 h).1
 have hkle:=uV s xs;have V0:=hV.alloc (.cells #[.int .i64 s.1,.int .i64 s.2] 30);have Dm:=dH (hx0.below V0.below);have Hv:=dH (LM s A n c xs (w.alloc (.cells #[.int .i64 s.1,.int .i64 s.2] 30)) Dm.o (by omega));have hc1:=V0.nb.cell 0;simp only [aP,aS] at hc1;have hbq:=Blk.new w 30 #[.int .i64 s.1,.int .i64 s.2];have e70:=hbq.cell 0;have e71:=hbq.cell 1;simp only [aP,aS,aW] at e70 e71;clear hbq;have HV:=dH hV;have V1:=dH V0;have HVB:=dH hB;have dR:=dD w (.cells #[.int .i64 s.1,.int .i64 s.2] 30);have eH:=dH dR;clear hV V0 hB jd hz0 hz1 hz2 hx0 BT hr O7 dR;unfold sv at Hv;go_enter func44,ntmps44;go_wp2_with fail;refine Hv.o.mono ?_;rintro e w2 ⟨vin,rfl,hO,dS⟩;have KA:Short (fc s xs):=fun x h=>X2.o x (hks.o x h)
 obtain ⟨Ai,ci,rfl,hNk⟩:=Own.nds hO KA;have Wy:=dH (Ip Ai _ ci (fc s xs) w2 hNk (by omega) (fun x h=>HRn.o x (hks.o x h)));have KB:=eH.o.trans (dS.mono eH.o.size);have HV2:=dH (V1.o.stay dS);have yD:=dH hO;have eG:=dH KB;have HGr:dG (∀g∈jK xs s,rightN g=true):=fun g h=>iS hl HRn.o s h
 have HQ:dG (∀(j:Nat) (h1:j < (fc s xs).length) (h2:j < (jK xs s).length),(jU xs s).drop j=((fc s xs)[j],(jK xs s)[j]) :: (jU xs s).drop (j+1)):=fun j h1 h2=>by
  have h3:j < (jU xs s).length:=by omega
  have h4:(jU xs s)[j]'h3=((fc s xs)[j],(jK xs s)[j]):=List.getElem_zip (h:=h3);rw [List.drop_eq_getElem_cons h3,h4]
 have HGs:dG (qb ((fc s xs).map Nd.nm)=jK xs s):=rfl;rw [HGs.o] at Wy;have HSg:dG (me (jK xs s)):=fun g h=>by have:=(fR.1 (HGr.o g h)).2.1;omega
 obtain ⟨kG,hkG⟩:=dB (jU xs s);rw [<-hkG] at hDE hkl HQ;have HkG:=dH hkG;generalize jK xs s=gs at*;generalize acy:fc s xs=ks at*;clear hO dS KA hNk KB hc1 Hv hkG HGs acy;go_wp2_with fail;refine Wy.o.mono ?_;rintro e w3 ⟨vg,rfl,hG,di⟩;have hL1:dN w3 w.heap.size 7 (.slice Ai ks.length ci) ks.length (jB ks):=(dN.mono yD.o (by simp)).below di;obtain ⟨Ag,cg,hvg⟩:=dN.isSlice hG;have hL2:=hG.mono eG.o.size;rw [pS] at hvg;subst hvg;have Hw:=dH (HV2.o.stay di);have dw:=dF eG di;have mO:=dH hL1;have EM:=dH hL2;clear hG di hL1 hL2 e70 e71 Wy Dm;go_wp2_with fail;go_loopw [32] (fun i wr=>∃(j:Nat) (ur:Value) (vr:Vw),i=.int .i64 j/\j<=ks.length/\VI w0 wr bn bm bo bd M B1 (.slice A n c) ur vr/\Lf xs vr/\KV bo M w3 wr u ur/\dG (vU k ahead (kG.drop j) vr=vU k ahead kG v)) (fun i _=>ks.length - (intOf i).toNat)
 case atStart=>exact ⟨0,u,v,rfl,aT _,Hw.o,HVB.o,KV.refl _ _ _ _,rfl⟩
 case round=>
  obtain ⟨j,ur,vr,rfl,hj,GQ,nJ,hKr,hE⟩:=hrel;have ud:=HV.o.list mO.o hKr;have tY:=HV.o.list EM.o hKr;have KA:Short ks:=fun x h=>X2.o x (hks.o x h)
  rcases aG j ks.length with hlt|hge
  ·have hjz:(j:Int) < (ks.length:Int):=by omega
   obtain ⟨b,off,rfl,jY,c0,c1,c2,c3,c4,c5,c6,_⟩:=lq.at_ (Own.nds' ud KA) hlt;have hq:=HQ.o j hlt (by omega);have abq:=hks.o ks[j] (ag _);have oy:=HGr.o (gs[j]'(by omega)) (ag _);have V3:dG (∀wz:World,dN wz w.heap.size 1 (.slice Ag ks.length cg) gs.length (strs gs)->∃b off,Ag=some ⟨b,off,none⟩/\wz.cell? ⟨b,off+j,none⟩=some (.string (bs (gs[j]'(by omega))))):=fun wz ho=>by
    obtain ⟨b,off,e1,_,e2,_⟩:=Strs.at_ (fZ.strs' pS ho HSg.o) (show j < gs.length by omega);exact ⟨b,off,e1,e2⟩
   generalize ks[j]=x at*;generalize gs[j]'(by omega)=g at*;rw [hq,vU] at hE;have uI:=GQ.alloc (.cells #[.int .i64 x.id.1,.int .i64 x.id.2,.bool x.dir,.int .i64 x.par.1,.int .i64 x.par.2,.string (bs x.nm),.string (bs x.mf)] 38);have m0:=uI.mb.cell 0;simp only [aP,aS] at m0;obtain ⟨g0,g1,g2,g3,g4,g5,g6⟩:=eU (Blk.new wr 38 (nc x).toArray);unfold nc at g0 g1 g2 g3 g4 g5 g6;have hlk:=uI.met.look x.id;unfold sv at hlk;by_cases KU:k=0\/x.id∈vr.met
   ·rw [if_pos KU] at hE
    have HF:dG (ij xs k s ahead v=none):=by show _=_;rw [hDE.o,<-hE.o];rfl
    have eE:=dH uI.below;have hcs:dG ((decide (x.id∈vr.met)=true)\/(decide (x.id∈vr.met)=false/\decide ((dp:Int)≥16)=true)):=by
     show _\/_;by_cases hm:x.id∈vr.met
     ·exact .inl (decide_eq_true hm)
     ·exact .inr ⟨decide_eq_false hm,decide_eq_true (by have:=KU.resolve_right hm;omega)⟩
    clear uI GQ nJ hKr ud tY hE KU hq V3;rcases hcs.o with hm| ⟨hm,hd⟩
    all_goals
     rw [hm] at hlk;clear hcs;go_wp2_with fail;go_ret;exact .inr ⟨HF.o,rfl,eE.o⟩
   ·rw [if_neg KU] at hE
    have hk0:0 < k:=by omega
    have abr:g.length<=24:=(fR.1 oy).2.1;have eN:ahead.length<=400:=by omega
    have K9:¬ (9223372036854775807 < ahead.length+g.length):=by omega
    have hnm:x.id∉vr.met:=fun h=>KU (.inr h)
    have hm:decide (x.id∈vr.met)=false:=decide_eq_false hnm;have hd:decide ((dp:Int)≥16)=false:=decide_eq_false (by omega);rw [hm] at hlk;obtain ⟨Au,cu,hur⟩:=dN.isSlice GQ.own;subst hur;obtain ⟨wm,Oa,hM,KL,hsz⟩:=uI.met.add x.id;unfold sv at Oa;have hVm:=uI.mark hM KL;have hMl:M < wr.heap.size:=GQ.met.lt;have hNb:=(Blk.new wr 38 (nc x).toArray).grown KL (fun e=>by have:=aa e;omega);obtain ⟨p0,p1,p2,p3,p4,p5,p6⟩:=eU hNb;obtain ⟨b2,off2,rfl,hcs⟩:=V3.o wm ((dN.alloc tY _).kept KL (by
     rcases iK:(Value.slice Ag ks.length cg).ownBlock with _|q
     ·exact .inl rfl
     ·exact .inr (fun e=>by have h1:=(tY.ge q iK).1;have h2:=aa e;have h3:=HV.o.lt.2.2.2.2;have h4:=HV.o.hB;omega)))
    have HUb:dG ((Value.slice Au vr.o.length cu).ownBlock≠some b2):=hKr.ne (EM.o.ge b2 (by simp [Value.ownBlock])).2 (fun e=>by have h1:=(HV.o.own.ge b2 e).2;have h2:=(tY.ge b2 (by simp [Value.ownBlock])).1;omega);have HUn:dG ((Value.slice Au vr.o.length cu).ownBlock≠some wr.heap.size):=fun e=>by have:=(GQ.own.ge _ e).2;omega
    have HNo:dG (wr.heap.size≠bo/\b2≠bo):=by
     have h2:=(tY.ge b2 (by simp [Value.ownBlock])).1;have h3:=HV.o.lt.2.2.1;have h4:=HV.o.hB;have h5:=GQ.hB;exact ⟨by omega,by omega⟩
    have o0:=hVm.ob.cell 0;have of:=hVm.ob.frozen 0;simp only [aP,aS] at o0;have HKm:=dH ((hKr.below ((aC _ wr).alloc (aB _) (.cells #[.int .i64 x.id.1,.int .i64 x.id.2,.bool x.dir,.int .i64 x.par.1,.int .i64 x.par.2,.string (bs x.nm),.string (bs x.mf)] 38))).mark KL);have HVm:=dH hVm;have HBp:=dH (nJ.push abq hnm (jf ahead (x,g)));have HE:=dH hE;have Kj:=dH hk0;have hol:vr.o.length<=80:=aK nJ.le hl;have PJ:=dH hol;clear uI GQ nJ hKr ud tY hE KU hq V3 hM KL hVm hNb hsz hnm hm hk0 hol;go_wp2_with fail;have HVx:=dH ((HVm.o.alloc (.cells #[.string (bs (ahead++g)),.int .i64 x.id.1,.int .i64 x.id.2,.bool x.dir,.bool false,.string (bs x.mf)] 44)).drew);have HSx:dG (Src prog 6 40 (.slice (some ⟨wm.heap.size,0,none⟩) 1 1) 1 [.string (bs (ahead++g)),.int .i64 x.id.1,.int .i64 x.id.2,.bool x.dir,.bool false,.string (bs x.mf)] (wm.alloc (.cells #[.string (bs (ahead++g)),.int .i64 x.id.1,.int .i64 x.id.2,.bool x.dir,.bool false,.string (bs x.mf)] 44)).drew):=Src.it (jf ahead (x,g)) (Blk.drew (Blk.new wm 44 _));have h63:vr.o.length+1<=maxLen:=by have:=PJ.o;unfold maxLen;omega
    have hby:(vr.o.length+1)*i0.bytes<=140737488355328:=by have:=PJ.o;rw [iH.o];omega
    have H63:=dH h63;have HBy:=dH hby;have hbo:dG (∀{W W':World} {uu:Value},VI w0 W bn bm bo bd M B1 (.slice A n c) uu ⟨vr.met++[x.id],vr.o⟩->W.grownBy W' uu.ownBlock->Blk W' bo 40 #[uu]):=fun hW hg=>hW.ob.grown hg (fun e=>hW.own_ne hW.lt.2.2.1 e.symm)
    have hS0:mG wr.heap.size x b2 (off2+j) g wm.drew:=⟨p0,p1,p2,p6,hcs⟩;have KD:b2 < wm.heap.size:=dn hcs;have Z3:wr.heap.size < wm.heap.size:=dn p0;have uH:mG wr.heap.size x b2 (off2+j) g (wm.alloc (.cells #[.string (bs (ahead++g)),.int .i64 x.id.1,.int .i64 x.id.2,.bool x.dir,.bool false,.string (bs x.mf)] 44)).drew:=hS0.of_heap (bE wm _ _ Z3) (bE wm _ _ KD);have hkeep:dG (∀{W':World},((wm.alloc (.cells #[.string (bs (ahead++g)),.int .i64 x.id.1,.int .i64 x.id.2,.bool x.dir,.bool false,.string (bs x.mf)] 44)).drew).grownBy W' (Value.slice Au vr.o.length cu).ownBlock->mG wr.heap.size x b2 (off2+j) g W'):=fun hg=>
     uH.of_heap (hg.block _ (by simp;omega) (fun e=>HUn.o e.symm)) (hg.block _ (by simp;omega) (fun e=>HUb.o e.symm))
    have HO0:(wm.drew.cell? ⟨bo,0,none⟩=some (.slice Au vr.o.length cu)):=o0;have Sn:((wm.alloc (.cells #[.string (bs (ahead++g)),.int .i64 x.id.1,.int .i64 x.id.2,.bool x.dir,.bool false,.string (bs x.mf)] 44)).drew.cell? ⟨bo,0,none⟩=some (.slice Au vr.o.length cu)):=cell?_alloc_old o0 _;have BF:=dH hS0;have tZ:=dH uH;clear h63 hby hS0 uH p0 p1 p2 p3 p4 p5 p6 hcs KD Z3
    refine wp_region_held_drew (S:=(fun w'=>w'.cell? ⟨wr.heap.size,0,none⟩=some (.int .i64 x.id.1)/\w'.cell? ⟨wr.heap.size,1,none⟩=some (.int .i64 x.id.2)/\w'.cell? ⟨wr.heap.size,2,none⟩=some (.bool x.dir)/\w'.cell? ⟨wr.heap.size,6,none⟩=some (.string (bs x.mf))/\w'.cell? ⟨b2,off2+j,none⟩=some (.string (bs g)))) (by kernel_rfl) (by with_reducible first|exact mG.cells Wu.o|exact mG.cells O0.o|exact mG.cells tZ.o|exact mG.cells BF.o) (fun hHeld=>?_);refine wpAnyH_take (i:=1) (v:=?_) rfl (by kernel_rfl) (by kernel_rfl) (by kernel_rfl) (fun _ _ _ h=>h) (Or.inl ⟨by first|(with_reducible rfl)|kernel_rfl,?_⟩) hHeld ?_;rotate_left
    ·(intro w hSw;(try dsimp only at hSw);go_simp;first|done|with_reducible rfl)
    (try simp only [Act.put,aM,aJ,aL,aH,aD,aF]);refine wpAnyH_take (i:=2) (v:=?_) rfl (by kernel_rfl) (by kernel_rfl) (by kernel_rfl) (fun _ _ _ h=>h) (Or.inl ⟨by first|(with_reducible rfl)|kernel_rfl,?_⟩) hHeld ?_;rotate_left
    ·(intro w hSw;(try dsimp only at hSw);go_simp;first|done|with_reducible rfl)
    (try simp only [Act.put,aM,aJ,aL,aH,aD,aF]);refine wpAnyH_take (i:=3) (v:=?_) rfl (by kernel_rfl) (by kernel_rfl) (by kernel_rfl) (fun _ _ _ h=>h) (Or.inl ⟨by first|(with_reducible rfl)|kernel_rfl,?_⟩) hHeld ?_;rotate_left
    ·(intro w hSw;(try dsimp only at hSw);go_simp;first|done|with_reducible rfl)
    (try simp only [Act.put,aM,aJ,aL,aH,aD,aF]);refine wpAnyH_take (i:=4) (v:=?_) rfl (by kernel_rfl) (by kernel_rfl) (by kernel_rfl) (fun _ _ _ h=>h) (Or.inl ⟨by first|(with_reducible rfl)|kernel_rfl,?_⟩) hHeld ?_;rotate_left
    ·(intro w hSw;(try dsimp only at hSw);go_simp;first|done|with_reducible rfl)
    (try simp only [Act.put,aM,aJ,aL,aH,aD,aF]);refine wpAnyH_take (i:=5) (v:=?_) rfl (by kernel_rfl) (by kernel_rfl) (by kernel_rfl) (fun _ _ _ h=>h) (Or.inl ⟨by first|(with_reducible rfl)|kernel_rfl,?_⟩) hHeld ?_;rotate_left
    ·(intro w hSw;(try dsimp only at hSw);go_simp;first|done|with_reducible rfl)
    (try simp only [Act.put,aM,aJ,aL,aH,aD,aF]);refine wpAnyH_take (i:=6) (v:=?_) rfl (by kernel_rfl) (by kernel_rfl) (by kernel_rfl) (fun _ _ _ h=>h) (Or.inl ⟨by first|(with_reducible rfl)|kernel_rfl,?_⟩) hHeld ?_;rotate_left
    ·(intro w hSw;(try dsimp only at hSw);go_simp;first|done|with_reducible rfl)
    (try simp only [Act.put,aM,aJ,aL,aH,aD,aF]);refine wpAnyH_take (i:=7) (v:=?_) rfl (by kernel_rfl) (by kernel_rfl) (by kernel_rfl) (fun _ _ _ h=>h) (Or.inl ⟨by first|(with_reducible rfl)|kernel_rfl,?_⟩) hHeld ?_;rotate_left
    ·(intro w hSw;(try dsimp only at hSw);go_simp;first|done|with_reducible rfl)
    (try simp only [Act.put,aM,aJ,aL,aH,aD,aF]);refine wpAnyH_take (i:=8) (v:=?_) rfl (by kernel_rfl) (by kernel_rfl) (by kernel_rfl) (fun _ _ _ h=>h) (Or.inl ⟨by first|(with_reducible rfl)|kernel_rfl,?_⟩) hHeld ?_;rotate_left
    ·(intro w hSw;(try dsimp only at hSw);go_simp;first|done|with_reducible rfl)
    (try simp only [Act.put,aM,aJ,aL,aH,aD,aF]);refine wpAnyH_take (i:=9) (v:=?_) rfl (by kernel_rfl) (by kernel_rfl) (by kernel_rfl) (fun _ _ _ h=>h) (Or.inl ⟨by first|(with_reducible rfl)|kernel_rfl,?_⟩) hHeld ?_;rotate_left
    ·(intro w hSw;(try dsimp only at hSw);go_simp;first|done|with_reducible rfl)
    (try simp only [Act.put,aM,aJ,aL,aH,aD,aF]);refine wpAnyH_take (i:=10) (v:=?_) rfl (by kernel_rfl) (by kernel_rfl) (by kernel_rfl) (fun _ _ _ h=>h) (Or.inl ⟨by first|(with_reducible rfl)|kernel_rfl,?_⟩) hHeld ?_;rotate_left
    ·(intro w hSw;(try dsimp only at hSw);go_simp;first|done|with_reducible rfl)
    (try simp only [Act.put,aM,aJ,aL,aH,aD,aF]);refine wpAnyH_take (i:=11) (v:=?_) rfl (by kernel_rfl) (by kernel_rfl) (by kernel_rfl) (fun _ _ _ h=>h) (Or.inl ⟨by first|(with_reducible rfl)|kernel_rfl,?_⟩) hHeld ?_;rotate_left
    ·(intro w hSw;(try dsimp only at hSw);go_simp;first|done|with_reducible rfl)
    (try simp only [Act.put,aM,aJ,aL,aH,aD,aF]);refine wpAnyH_take (i:=12) (v:=?_) rfl (by kernel_rfl) (by kernel_rfl) (by kernel_rfl) (fun _ _ _ h=>h) (Or.inl ⟨by first|(with_reducible rfl)|kernel_rfl,?_⟩) hHeld ?_;rotate_left
    ·(intro w hSw;(try dsimp only at hSw);go_simp;first|done|with_reducible rfl)
    (try simp only [Act.put,aM,aJ,aL,aH,aD,aF]);refine wpAnyH_take (i:=13) (v:=?_) rfl (by kernel_rfl) (by kernel_rfl) (by kernel_rfl) (fun _ _ _ h=>h) (Or.inl ⟨by first|(with_reducible rfl)|kernel_rfl,?_⟩) hHeld ?_;rotate_left
    ·(intro w hSw;(try dsimp only at hSw);go_simp;first|done|with_reducible rfl)
    (try simp only [Act.put,aM,aJ,aL,aH,aD,aF]);refine wpAnyH_ready (rs:=[0,14]) (by kernel_rfl) (by simp) ?_;refine AllReadyH.cons rfl (fun K hK=>?_) (AllReadyH.cons rfl (fun K hK=>?_) AllReadyH.nil)
    all_goals (
      go_simp;clear hHeld;refine hK.out _ _ (by with_reducible first|exact mG.cells Wu.o|exact mG.cells O0.o|exact mG.cells tZ.o|exact mG.cells BF.o) (fun hHeld=>?_);clear hK K;(try simp only [Act.put,aM,aJ,aL,aH,aD,aF])
    )
    refine wpAnyH_ready (rs:=[14]) (by kernel_rfl) (by simp) ?_;refine AllReadyH.cons rfl (fun K hK=>?_) AllReadyH.nil
    rotate_left;refine wpAnyH_ready (rs:=[0]) (by kernel_rfl) (by simp) ?_
    refine AllReadyH.cons rfl (fun K hK=>?_) AllReadyH.nil
    all_goals (
      go_simp;clear hHeld;refine hK.out _ _ (by with_reducible first|exact mG.cells Wu.o|exact mG.cells O0.o|exact mG.cells tZ.o|exact mG.cells BF.o) (fun hHeld=>?_);clear hK K;(try simp only [Act.put,aM,aJ,aL,aH,aD,aF]);refine wpAnyH_ready (rs:=[15]) (by kernel_rfl) (by simp) ?_;refine AllReadyH.cons rfl (fun K hK=>?_) AllReadyH.nil
      refine xS rfl (.tmp 48) (.tmp 62) 40 40 rfl 44 i0 (.agg #[.string ⟨#[]⟩,.int .i64 0,.int .i64 0,.bool false,.bool false,.string ⟨#[]⟩]) 6 underlying40 HI.o j9.o gH.o rfl (by decide) B1 (.slice Au vr.o.length cu) vr.o.length (EF vr.o) rfl HVx.o.own (.slice (some ⟨wm.heap.size,0,none⟩) 1 1) rfl 1 [.string (bs (ahead++g)),.int .i64 x.id.1,.int .i64 x.id.2,.bool x.dir,.bool false,.string (bs x.mf)] HSx.o H63.o HBy.o HVx.o.hB ?_;intro v' w5 hown hgrow gE;obtain ⟨A5,c5,rfl⟩:=dN.isSlice hown;have Bf:=hbo.o HVx.o hgrow;have abt:w5.cell? ⟨bo,0,none⟩=some (.slice Au vr.o.length cu):=Bf.cell 0;have abu:w5.frozen? ⟨bo,0,none⟩=false:=Bf.frozen 0;have O0:=dH (hkeep.o hgrow);have Wu:=dH (mG.of_heap O0.o (bx w5 ⟨bo,0,none⟩ (.slice A5 (vr.o.length+1) c5) wr.heap.size HNo.o.1) (bx w5 ⟨bo,0,none⟩ (.slice A5 (vr.o.length+1) c5) b2 HNo.o.2));have V4:=dH (HVx.o.push (x:=jf ahead (x,g)) hown hgrow);have PG:=dH (((HKm.o.below (((aC _ wm).alloc (aB _) (.cells #[.string (bs (ahead++g)),.int .i64 x.id.1,.int .i64 x.id.2,.bool x.dir,.bool false,.string (bs x.mf)] 44)).drew)).push hgrow (gE.imp _root_.id (fun e=>e.trans (by simp)))).store (.slice A5 (vr.o.length+1) c5));clear hown hgrow gE Bf
      clear hHeld;refine hK.out _ _ (by with_reducible first|exact mG.cells Wu.o|exact mG.cells O0.o|exact mG.cells tZ.o|exact mG.cells BF.o) (fun hHeld=>?_);clear hK K;(try simp only [Act.put,aM,aJ,aL,aH,aD,aF]);refine wpAnyH_ready (rs:=[16]) (by kernel_rfl) (by simp) ?_;refine AllReadyH.cons rfl (fun K hK=>?_) AllReadyH.nil
      go_simp;clear hHeld;refine hK.out _ _ (by with_reducible first|exact mG.cells Wu.o|exact mG.cells O0.o|exact mG.cells tZ.o|exact mG.cells BF.o) (fun hHeld=>?_);clear hK K;(try simp only [Act.put,aM,aJ,aL,aH,aD,aF]);refine wpAnyH_done (by kernel_rfl) ?_ _
    )
    all_goals
     clear hHeld HO0 Sn abt abu o0 of;go_wp2_with fail;exact ⟨⟨j+1,.slice A5 (vr.o.length+1) c5,⟨vr.met++[x.id],vr.o++[jf ahead (x,g)]⟩,by go_num,by omega,V4.o,HBp.o,PG.o,HE.o⟩,by simp [intOf];omega⟩
  ·have hjz:¬ (j:Int) < (ks.length:Int):=by omega
   have RR:kG.drop j=[]:=List.drop_of_length_le (by omega);rw [RR,vU] at hE;have yF:dG (ij xs k s ahead v=kW (gK xs k) ahead kG vr):=by show _=_;rw [hDE.o,<-hE.o];rfl
   have EN:dG (0 < ks.length->0 < k):=fun h=>by
    rcases Nat.eq_zero_or_pos k with rfl|h'
    ·exfalso
     have hkg:kG≠[]:=fun e=>by rw [e] at hkl;simp at hkl;omega
     cases aax:kG with
     |nil=>exact hkg aax
     |cons q r=>
      have:=hE.o;rw [aax,vU,if_pos (.inl rfl)] at this;cases this
    ·exact h'
   have HVr:=dH GQ;have rH:=dH nJ;have Z4:=dH hKr;clear GQ nJ hKr ud tY hE RR hj hge;obtain ⟨v1,uG⟩:∃z,z=vr:=⟨_,rfl⟩;rw [<-uG] at yF HVr rH;clear uG;go_wp2_with fail;go_loopw [67] (fun i wq=>∃(j:Nat) (uq:Value) (vq:Vw),i=.int .i64 j/\j<=ks.length/\VI w0 wq bn bm bo bd M B1 (.slice A n c) uq vq/\Lf xs vq/\KV bo M w3 wq u uq/\dG (kW (gK xs k) ahead (kG.drop j) vq=kW (gK xs k) ahead kG v1)) (fun i _=>ks.length - (intOf i).toNat)
   case atStart=>exact ⟨0,ur,v1,rfl,aT _,HVr.o,rH.o,Z4.o,rfl⟩
   case round=>
    clear HVr rH Z4;obtain ⟨j,uq,vq,rfl,hj,GQ,nJ,hKr,hE⟩:=hrel;have ud:=HV.o.list mO.o hKr;have tY:=HV.o.list EM.o hKr;have KA:Short ks:=fun x h=>X2.o x (hks.o x h)
    rcases aG j ks.length with hlt|hge
    ·have hjz:(j:Int) < (ks.length:Int):=by omega
     have hk0:=EN.o (by omega);obtain ⟨b,off,rfl,jY,c0,c1,c2,c3,c4,c5,c6,_⟩:=lq.at_ (Own.nds' ud KA) hlt;have hq:=HQ.o j hlt (by omega);have oy:=HGr.o (gs[j]'(by omega)) (ag _);obtain ⟨b2,off2,rfl,_,hcs,_⟩:=Strs.at_ (fZ.strs' pS tY HSg.o) (show j < gs.length by omega);generalize ks[j]=x at*;generalize gs[j]'(by omega)=g at*;rw [hq,kW] at hE;have uI:=GQ.alloc (.cells #[.int .i64 x.id.1,.int .i64 x.id.2,.bool x.dir,.int .i64 x.par.1,.int .i64 x.par.2,.string (bs x.nm),.string (bs x.mf)] 38);obtain ⟨g0,g1,g2,g3,g4,g5,g6⟩:=eU (Blk.new wr 38 (nc x).toArray);unfold nc at g0 g1 g2 g3 g4 g5 g6;cases sX:x.dir with
     |false=>
      rw [sX] at hE uI c2 g0 g1 g2 g3 g4 g5 g6;simp only [bR,if_false] at hE;have V4:=dH uI;have tW:=dH nJ;have PG:=dH (hKr.below ((aC _ wr).alloc (aB _) (.cells #[.int .i64 x.id.1,.int .i64 x.id.2,.bool false,.int .i64 x.par.1,.int .i64 x.par.2,.string (bs x.nm),.string (bs x.mf)] 38)));have HE:=dH hE;clear uI GQ nJ hKr ud tY hE hq sX;go_wp2_with fail;exact ⟨⟨j+1,uq,vq,by go_num,by omega,V4.o,tW.o,PG.o,HE.o⟩,by simp [intOf];omega⟩
     |true=>
      rw [sX] at hE uI c2 g0 g1 g2 g3 g4 g5 g6;simp only [if_true] at hE;have abr:g.length<=24:=(fR.1 oy).2.1;have eN:ahead.length<=400:=by omega
      have K9:¬ (9223372036854775807 < ahead.length+g.length):=by omega
      have acE:¬ (9223372036854775807 < ahead.length+g.length+1):=by omega
      have O8:bs (ahead++g)++(⟨#[47]⟩:ByteArray)=bs (ahead++g++[47]):=dM (ahead++g) [47];have d0:=uI.db.cell 0;simp only [aP,aS,nx] at d0;have acV:=cell?_alloc_old hcs (.cells #[.int .i64 x.id.1,.int .i64 x.id.2,.bool true,.int .i64 x.par.1,.int .i64 x.par.2,.string (bs x.nm),.string (bs x.mf)] 38);have hlen:(ahead++g++[47]).length<=25*(dp+1):=by simp;omega
      have BA:=dH (abp.o hk0 x.id (ahead++g++[47]) uq vq _ hlen uI.drew nJ);have PG:=dH (hKr.below ((aC _ wr).alloc (aB _) (.cells #[.int .i64 x.id.1,.int .i64 x.id.2,.bool true,.int .i64 x.par.1,.int .i64 x.par.2,.string (bs x.nm),.string (bs x.mf)] 38)).drew);obtain ⟨ah2,WS⟩:∃z,z=ahead++g++[47]:=⟨_,rfl⟩;rw [<-WS] at O8 BA hE;have HE:=dH hE;have HAh:=dH WS;clear uI GQ nJ hKr ud tY hE hq sX hlen WS hcs;go_wp2_with fail;refine gd (C:=fun w'=>w'=(wr.alloc (.cells #[.int .i64 x.id.1,.int .i64 x.id.2,.bool true,.int .i64 x.par.1,.int .i64 x.par.2,.string (bs x.nm),.string (bs x.mf)] 38)).drew) 12 (by kernel_rfl) (by kernel_rfl) rfl ?_;simp only [cU,List.take_zero,List.drop_succ_cons,bk];repeat (go_big_quiet_step (fail))
      refine wpQuiet_nil ?_;rintro _ rfl;go_wp2_with fail;refine BA.o.mono ?_;rintro e w4 (⟨v',u',hr',rfl,hV4,jA,hK4⟩| ⟨hr',rfl,hb4⟩)
      ·have Sq:dG (kW (gK xs k) ahead (kG.drop (j+1)) v'=kW (gK xs k) ahead kG v1):=by
        have:=HE.o;rw [hr'] at this;exact this
       have V4:=dH hV4;have tW:=dH jA;have abv:=dH (PG.o.trans hK4);clear hr' hV4 jA hK4;go_wp2_with fail;exact ⟨⟨j+1,u',v',by go_num,by omega,V4.o,tW.o,abv.o,Sq.o⟩,by simp [intOf];omega⟩
      ·have HF:dG (ij xs k s ahead v=none):=by
        have:=HE.o;rw [hr'] at this;show _=_;rw [yF.o,<-dG.o this];rfl
       have tW:=dH hb4;clear hr' hb4;go_wp2_with fail;go_ret;exact .inr ⟨HF.o,rfl,tW.o⟩
    ·have hjz:¬ (j:Int) < (ks.length:Int):=by omega
     have RR:kG.drop j=[]:=List.drop_of_length_le (by omega);rw [RR,kW] at hE;have HF:dG (ij xs k s ahead v=some vq):=by show _=_;rw [yF.o,<-hE.o]
     have V4:=dH GQ;have tW:=dH nJ;have PG:=dH ((KV.of_below dw.o).trans hKr);clear GQ nJ hKr ud tY hE RR hj hge;go_wp2_with fail;go_ret;exact .inl ⟨vq,uq,HF.o,rfl,V4.o,tW.o,PG.o⟩
end
end Go.Proofs.YtgdaahffmcfhpaaGreatDoor
