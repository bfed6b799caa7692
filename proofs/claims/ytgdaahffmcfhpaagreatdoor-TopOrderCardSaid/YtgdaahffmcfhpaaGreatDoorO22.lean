/- Lemmas on the way: Vd. -/
import Derived.Test.YtgdaahffmcfhpaaGreatDoorO12
import Derived.Test.YtgdaahffmcfhpaaGreatDoorO14
import Derived.Test.YtgdaahffmcfhpaaGreatDoorO21
set_option maxRecDepth 100000
set_option maxHeartbeats 8000000
namespace Go.Proofs.YtgdaahffmcfhpaaGreatDoor
open aA
open Tryz
section
open Go.RowKit
attribute [local go_sem] dR dO dS dP
theorem Nv:(prog.info? 44).map (λi=>(i.zero,i.size,i.bytes))=some (some (.agg #[yj,qn,qn,false,false,yj]),6,56):=by kernel_rfl
variable {w:World}
theorem Src.it {g c:Nat} (x:It) (h:Blk w g 44 (ic x).toArray):Src prog 6 40 (.slice (some g) 1 c) 1 (ic x) w:=
 Src.ofSlice w underlying40 ⟨g,0,none⟩ 1 c (ic x) rfl (λj u hu=>by
  have:(Addr.mk g 0 none).add j= ⟨g,j,none⟩:=by unfold Addr.add;split <;> simp_all
  rw [this,h.cell];simpa using hu) (NO x)
variable {B n b2 o2:Nat}
theorem VI.list{w0 w2 wr:World} {bn bm bo bd M B1:Nat} {nv u ur:Value} {v:Vw} (h:VI w0 w bn bm bo bd M B1 nv u v) {size:Nat} {vl:Value} {cs:List Value} (ho:dQ w2 w size vl n cs) (k:KV bo M w2 wr u ur):dQ wr w size vl n cs:=by
 obtain ⟨l1,l2,l3,l4,l5⟩:=h.lt;have hB:=h.hB;refine ho.keepV k (λe=>?_) (λe=>?_) (λg e e2=>?_)
 ·have:=(ho.ge _ e).1;omega
 ·have:=(ho.ge _ e).1;omega
 ·have:=(ho.ge _ e).1;have:=(h.own.ge _ e2).2;omega
variable {A:Option Addr}
theorem Own.nds' {c:Nat} {xs:List Nd} (h:dQ w B 7 (.slice A xs.length c) xs.length (jU xs)) (hs:Short xs):lu w A xs.length c xs:=by
 obtain ⟨A',c',e,h'⟩:=Own.nds h hs;injection e with e1 e2 e3
 subst e1 e3;exact h'
theorem fm.strs' {c:Nat} {xs:List By} (hn:xs.length=n) (h:dQ w B 1 (.slice A n c) xs.length (Go.Proofs.YtgdaahffmcfhpaaGreatDoor.strs xs)) (hs:nM xs):Strs w A n c xs:=by
 subst hn;obtain ⟨A',c',e,h'⟩:=fm.strs h hs;injection e with e1 e2 e3
 subst e1 e3;exact h'
def gD (B:Nat) (x:Nd) (b2 o2:Nat) (g:By) (w:World):Prop:=
 w.cell? B=x.id.1/\w.cell? (Qc B 1)=x.id.2/\w.cell? (Qc B 2)=x.dir/\w.cell? (Qc B 6)=x.mf/\w.cell? (Qc b2 o2)=g
theorem gD.cells {x:Nd} {g:By} (h:gD B x b2 o2 g w):
  w.cell? B=x.id.1/\w.cell? (Qc B 1)=x.id.2/\w.cell? (Qc B 2)=x.dir/\w.cell? (Qc B 6)=x.mf/\w.cell? (Qc b2 o2)=g:=h
theorem gD.of_heap {x:Nd} {g:By} {w':World} (h:gD B x b2 o2 g w) (h1:w'.heap[B]? =w.heap[B]?) (h2:w'.heap[b2]? =w.heap[b2]?):gD B x b2 o2 g w':=by
 obtain ⟨a,b,c,d,e⟩:=h;have k1:∀j,w'.cell? ⟨B,j,none⟩=w.cell? ⟨B,j,none⟩:=λj=>aM (a:=⟨B,j,none⟩) h1
 have k2:∀j,w'.cell? ⟨b2,j,none⟩=w.cell? ⟨b2,j,none⟩:=λj=>aM (a:=⟨b2,j,none⟩) h2
 exact ⟨(k1 _).trans a,(k1 _).trans b,(k1 _).trans c,(k1 _).trans d,(k2 _).trans e⟩
def Nw (xs:List Nd) (w0 w:World) (bn bm bo bd M B1:Nat) (nv u:Value) (r:Option Vw) (e:Ending) (w':World):Prop:=
 (∃v' u',r=some v'/\e=.returned qn/\VI w0 w' bn bm bo bd M B1 nv u' v'/\NP xs v'/\KV bo M w w' u u')\/(r=none/\e=.returned (40:Int)/\Below w0 w0 w')
theorem AT (xs:List Nd) (A:Option Addr) (n c:Nat) (w0:World) (hx0:lu w0 A n c xs) (hl:xs.length<=80) (hr:∀x∈xs,rightN x.nm=true) (bn bm bo bd M B1:Nat) (k dp:Nat) (hk:dp+k=16)
  (rA:0 < k->∀(s:St) (ahead:By) (u:Value) (v:Vw) (w:World),ahead.length<=25*(dp+1)->VI w0 w bn bm bo bd M B1 (.slice A n c) u v->NP xs v->
   Calls prog 44 #[.agg #[s.1,s.2],ahead,.int .i64 ((dp:Int)+1),Qp bn,Qp bm,Qp bo,Qp bd] w (Nw xs w0 w bn bm bo bd M B1 (.slice A n c) u (gK xs k s ahead v)))
  (s:St) (ahead:By) (u:Value) (v:Vw) (w:World) (ha:ahead.length<=25*dp) (hV:VI w0 w bn bm bo bd M B1 (.slice A n c) u v) (hB:NP xs v):
  Calls prog 44 #[.agg #[s.1,s.2],ahead,dp,Qp bn,Qp bm,Qp bo,Qp bd] w (Nw xs w0 w bn bm bo bd M B1 (.slice A n c) u (jL xs k s ahead v)):=by
 obtain ⟨i0,gV,hz0,hz1,hz2⟩:=info_parts Nv;have FU:=hx0.len;have hshort:=hx0.short;have HI:=dL gV;have gx:=dL hz0;have gJ:=dL hz1;have gT:=dL hz2;have Q7:=dL hx0;have aex:dK _:=rA;have XY:dK (∀x∈xs,rightN x.nm=true):=hr;have Ti:dK (Short xs):=hshort;have hDE:dK (jL xs k s ahead v=(wh k ahead (jy xs s) v).bind (lD (gK xs k) ahead (jy xs s))):=Rx xs hl k s ahead v;obtain ⟨hkl,qY⟩:=wj xs hl s;have hks:dK (∀x∈fo s xs,x∈xs):=λx h=>(List.mem_filter.1 h).1
 have hkle:=vi s xs;have XZ:=hV.alloc (.cells #[s.1,s.2] 30);have uA:=dL (hx0.below XZ.below);have Tj:=dL (NF s A n c xs (w.alloc (.cells #[s.1,s.2] 30)) uA.o (by omega));have hc1:=XZ.nb.cell 0;simp only [aO,aT] at hc1;have Xa:=Blk.new w 30 #[s.1,s.2];have e70:=Xa.cell 0;have e71:=Xa.cell 1;simp only [aO,aT,aZ] at e70 e71;clear Xa;have HV:=dL hV;have Xb:=dL XZ;have HVB:=dL hB;have dV:=dH w (.cells #[s.1,s.2] 30);have eR:=dL dV;clear hV XZ hB gV hz0 hz1 hz2 hx0 rA hr hshort dV;unfold sv at Tj;go_enter func44,ntmps44;go_wp2_with fail;refine Tj.o.mono ?_;rintro e w2 ⟨vin,rfl,hO,dY⟩;have Lw:Short (fo s xs):=λx h=>Ti.o x (hks.o x h)
 obtain ⟨Ai,ci,rfl,hNk⟩:=Own.nds hO Lw;have ZC:=dL (A8 Ai _ ci (fo s xs) w2 hNk (by omega) (λx h=>XY.o x (hks.o x h)));have yU:=eR.o.trans (dY.mono eR.o.size);have HV2:=dL (Xb.o.stay dY);have zW:=dL hO;have eA:=dL yU;have HGr:dK (∀g∈jf xs s,rightN g=true):=λg h=>mE hl XY.o s h
 have HQ:dK (∀(j:Nat) (h1:j < (fo s xs).length) (h2:j < (jf xs s).length),(jy xs s).drop j=((fo s xs)[j],(jf xs s)[j]) :: (jy xs s).drop (j+1)):=λj h1 h2=>by
  have h3:j < (jy xs s).length:=by omega
  have h4:(jy xs s)[j]'h3=((fo s xs)[j],(jf xs s)[j]):=List.getElem_zip (h:=h3);rw [List.drop_eq_getElem_cons h3,h4]
 have HGs:dK (rQ ((fo s xs).map Nd.nm)=jf xs s):=rfl;rw [HGs.o] at ZC;have HSg:dK (nM (jf xs s)):=λg h=>by have:=(fe.1 (HGr.o g h)).2.1;omega
 obtain ⟨kG,hkG⟩:=dG (jy xs s);rw [<-hkG] at hDE hkl HQ;have HkG:=dL hkG;generalize jf xs s=gs at*;generalize afS:fo s xs=ks at*;clear hO dY Lw hNk yU hc1 Tj hkG HGs afS;go_wp2_with fail;refine ZC.o.mono ?_;rintro e w3 ⟨vg,rfl,hG,dn⟩;have hL1:dQ w3 w 7 (.slice Ai ks.length ci) ks.length (jU ks):=(dQ.mono zW.o (by simp)).below dn;obtain ⟨Ag,cg,hvg⟩:=dQ.isSlice hG;have hL2:=hG.mono eA.o.size;rw [qY] at hvg;subst hvg;have Tk:=dL (HV2.o.stay dn);have eC:=dJ eA dn;have mJ:=dL hL1;have Ja:=dL hL2;clear hG dn hL1 hL2 e70 e71 ZC uA;go_wp2_with fail;go_loopw [32] (λi wr=>∃(j:Nat) (ur:Value) (vr:Vw),i=.int .i64 j/\j<=ks.length/\VI w0 wr bn bm bo bd M B1 (.slice A n c) ur vr/\NP xs vr/\KV bo M w3 wr u ur/\dK (wh k ahead (kG.drop j) vr=wh k ahead kG v)) (λi _=>ks.length - (intOf i).toNat)
 case atStart=>exact ⟨0,u,v,rfl,aS _,Tk.o,HVB.o,KV.refl _ _ _ _,rfl⟩
 case round=>
  obtain ⟨j,ur,vr,rfl,hj,IX,pM,hKr,hE⟩:=hrel;have ue:=HV.o.list mJ.o hKr;have tu:=HV.o.list Ja.o hKr;have Lw:Short ks:=λx h=>Ti.o x (hks.o x h)
  rcases aD j ks.length with hlt|hge
  ·have hjz:(j:Int) < (ks.length:Int):=by omega
   obtain ⟨b,off,rfl,jW,c0,c1,c2,c3,c4,c5,c6,_⟩:=lu.at_ (Own.nds' ue Lw) hlt;have hq:=HQ.o j hlt (by omega);have aey:=hks.o ks[j] (aa _);have qK:=HGr.o (gs[j]'(by omega)) (aa _);have Xc:dK (∀wz:World,dQ wz w 1 (.slice Ag ks.length cg) gs.length (strs gs)->∃b off,Ag=some ⟨b,off,none⟩/\wz.cell? ⟨b,off+j,none⟩=some (.string (bs (gs[j]'(by omega))))):=λwz ho=>by
    obtain ⟨b,off,e1,_,e2,_⟩:=Strs.at_ (fm.strs' qY ho HSg.o) (show j < gs.length by omega);exact ⟨b,off,e1,e2⟩
   generalize ks[j]=x at*;generalize gs[j]'(by omega)=g at*;rw [hq,wh] at hE;have vS:=IX.alloc (.cells #[x.id.1,x.id.2,x.dir,x.par.1,x.par.2,x.nm,x.mf] 38);have m0:=vS.mb.cell 0;simp only [aO,aT] at m0;obtain ⟨g0,g1,g2,g3,g4,g5,g6⟩:=eW (Blk.new wr 38 (nc x).toArray);unfold nc at g0 g1 g2 g3 g4 g5 g6;have hlk:=vS.met.look x.id;unfold sv at hlk;by_cases hbad:k=0\/x.id∈vr.met
   ·rw [if_pos hbad] at hE
    have HF:dK (jL xs k s ahead v=none):=by show _=_;rw [hDE.o,<-hE.o];rfl
    have fG:=dL vS.below;have hcs:dK ((decide (x.id∈vr.met)=true)\/(decide (x.id∈vr.met)=false/\decide ((dp:Int)≥16)=true)):=by
     show _\/_;by_cases hm:x.id∈vr.met
     ·exact .inl (decide_eq_true hm)
     ·exact .inr ⟨decide_eq_false hm,decide_eq_true (by have:=hbad.resolve_right hm;omega)⟩
    clear vS IX pM hKr ue tu hE hbad hq Xc;rcases hcs.o with hm| ⟨hm,hd⟩
    all_goals
     rw [hm] at hlk;clear hcs;go_wp2_with fail;go_ret;exact .inr ⟨HF.o,rfl,fG.o⟩
   ·rw [if_neg hbad] at hE
    have hk0:0 < k:=by omega
    have aez:g.length<=24:=(fe.1 qK).2.1;have hal:ahead.length<=400:=by omega
    have hsum:¬ (9223372036854775807 < ahead.length+g.length):=by omega
    have hnm:x.id∉vr.met:=λh=>hbad (.inr h)
    have hm:decide (x.id∈vr.met)=false:=decide_eq_false hnm;have hd:decide ((dp:Int)≥16)=false:=decide_eq_false (by omega);rw [hm] at hlk;obtain ⟨Au,cu,hur⟩:=dQ.isSlice IX.own;subst hur;obtain ⟨wm,UK,hM,MA,hsz⟩:=vS.met.add x.id;unfold sv at UK;have hVm:=vS.mark hM MA;have hMl:M < wr.heap.size:=IX.met.lt;have hNb:=(Blk.new wr 38 (nc x).toArray).grown MA (λe=>by have:=aX e;omega);obtain ⟨p0,p1,p2,p3,p4,p5,p6⟩:=eW hNb;obtain ⟨b2,off2,rfl,hcs⟩:=Xc.o wm ((dQ.alloc tu _).kept MA (by
     rcases ig:(Value.slice Ag ks.length cg).ownBlock with _|q
     ·exact .inl rfl
     ·exact .inr (λe=>by have h1:=(tu.ge q ig).1;have h2:=aX e;have h3:=HV.o.lt.2.2.2.2;have h4:=HV.o.hB;omega)))
    have HUb:dK ((Value.slice Au vr.o.length cu).ownBlock≠some b2):=hKr.ne (Ja.o.ge b2 (by simp [Value.ownBlock])).2 (λe=>by have h1:=(HV.o.own.ge b2 e).2;have h2:=(tu.ge b2 (by simp [Value.ownBlock])).1;omega);have HUn:dK ((Value.slice Au vr.o.length cu).ownBlock≠some wr.heap.size):=λe=>by have:=(IX.own.ge _ e).2;omega
    have HNo:dK (wr.heap.size≠bo/\b2≠bo):=by
     have h2:=(tu.ge b2 (by simp [Value.ownBlock])).1;have h3:=HV.o.lt.2.2.1;have h4:=HV.o.hB;have h5:=IX.hB;exact ⟨by omega,by omega⟩
    have o0:=hVm.ob.cell 0;have of:=hVm.ob.frozen 0;simp only [aO,aT] at o0;have HKm:=dL ((hKr.below ((aC _ wr).alloc (aB _) (.cells #[x.id.1,x.id.2,x.dir,x.par.1,x.par.2,x.nm,x.mf] 38))).mark MA);have HVm:=dL hVm;have HBp:=dL (pM.push aey hnm (kI ahead (x,g)));have HE:=dL hE;have ZJ:=dL hk0;have hol:vr.o.length<=80:=aI pM.le hl;have RF:=dL hol;clear vS IX pM hKr ue tu hE hbad hq Xc hM MA hVm hNb hsz hnm hm hk0 hol;go_wp2_with fail;have HVx:=dL ((HVm.o.alloc (.cells #[.string (bs (ahead++g)),x.id.1,x.id.2,x.dir,false,x.mf] 44)).drew);have HSx:dK (Src prog 6 40 (.slice (some wm) 1 1) 1 [.string (bs (ahead++g)),.int .i64 x.id.1,.int .i64 x.id.2,.bool x.dir,.bool false,.string (bs x.mf)] (wm.alloc (.cells #[.string (bs (ahead++g)),x.id.1,x.id.2,x.dir,false,x.mf] 44)).drew):=Src.it (kI ahead (x,g)) (Blk.drew (Blk.new wm 44 _));have h63:vr.o.length+1<=maxLen:=by have:=RF.o;unfold maxLen;omega
    have hby:(vr.o.length+1)*i0.bytes<=140737488355328:=by have:=RF.o;rw [gT.o];omega
    have H63:=dL h63;have HBy:=dL hby;have hbo:dK (∀{W W':World} {uu:Value},VI w0 W bn bm bo bd M B1 (.slice A n c) uu ⟨vr.met++[x.id],vr.o⟩->W.grownBy W' uu.ownBlock->Blk W' bo 40 #[uu]):=λhW hg=>hW.ob.grown hg (λe=>hW.own_ne hW.lt.2.2.1 e.symm)
    have hS0:gD wr x b2 (off2+j) g wm.drew:=⟨p0,p1,p2,p6,hcs⟩;have CX:b2 < wm.heap.size:=eB hcs;have abF:wr.heap.size < wm.heap.size:=eB p0;have vR:gD wr x b2 (off2+j) g (wm.alloc (.cells #[.string (bs (ahead++g)),x.id.1,x.id.2,x.dir,false,x.mf] 44)).drew:=hS0.of_heap (bM wm _ _ abF) (bM wm _ _ CX);have hkeep:dK (∀{W':World},((wm.alloc (.cells #[.string (bs (ahead++g)),x.id.1,x.id.2,x.dir,false,x.mf] 44)).drew).grownBy W' (Value.slice Au vr.o.length cu).ownBlock->gD wr x b2 (off2+j) g W'):=λhg=>
     vR.of_heap (hg.block _ (by simp;omega) (λe=>HUn.o e.symm)) (hg.block _ (by simp;omega) (λe=>HUb.o e.symm))
    have HO0:(wm.drew.cell? bo=Qq Au vr.o.length cu):=o0;have QM:((wm.alloc (.cells #[.string (bs (ahead++g)),x.id.1,x.id.2,x.dir,false,x.mf] 44)).drew.cell? bo=Qq Au vr.o.length cu):=cell?_alloc_old o0 _;have yV:=dL hS0;have rJ:=dL vR;clear h63 hby hS0 vR p0 p1 p2 p3 p4 p5 p6 hcs CX abF;refine wp_region_held_drew (S:=(λw'=>w'.cell? wr=x.id.1/\w'.cell? (Qc wr 1)=x.id.2/\w'.cell? (Qc wr 2)=x.dir/\w'.cell? (Qc wr 6)=x.mf/\w'.cell? ⟨b2,off2+j,none⟩=g)) (by kernel_rfl) (by (with_reducible first|exact gD.cells JT.o|exact gD.cells yt.o|exact gD.cells rJ.o|exact gD.cells yV.o)) (λdZ=>?_);refine taken 1 (v:=?_) rfl (by kernel_rfl) (λ_ _ _ h=>h) dZ (by first|(with_reducible rfl)|kernel_rfl) ?_ ?_
    rotate_left
    ·(intro w fO;(try dsimp only at fO);go_simp;first|done|with_reducible rfl)
    (try simp only [Act.put,aL,aJ,aK,aH,aF,aG])
    refine taken 2 (v:=?_) rfl (by kernel_rfl) (λ_ _ _ h=>h) dZ (by first|(with_reducible rfl)|kernel_rfl) ?_ ?_
    rotate_left
    ·(intro w fO;(try dsimp only at fO);go_simp;first|done|with_reducible rfl)
    (try simp only [Act.put,aL,aJ,aK,aH,aF,aG])
    refine taken 3 (v:=?_) rfl (by kernel_rfl) (λ_ _ _ h=>h) dZ (by first|(with_reducible rfl)|kernel_rfl) ?_ ?_
    rotate_left
    ·(intro w fO;(try dsimp only at fO);go_simp;first|done|with_reducible rfl)
    (try simp only [Act.put,aL,aJ,aK,aH,aF,aG])
    refine taken 4 (v:=?_) rfl (by kernel_rfl) (λ_ _ _ h=>h) dZ (by first|(with_reducible rfl)|kernel_rfl) ?_ ?_
    rotate_left
    ·(intro w fO;(try dsimp only at fO);go_simp;first|done|with_reducible rfl)
    (try simp only [Act.put,aL,aJ,aK,aH,aF,aG])
    refine taken 5 (v:=?_) rfl (by kernel_rfl) (λ_ _ _ h=>h) dZ (by first|(with_reducible rfl)|kernel_rfl) ?_ ?_
    rotate_left
    ·(intro w fO;(try dsimp only at fO);go_simp;first|done|with_reducible rfl)
    (try simp only [Act.put,aL,aJ,aK,aH,aF,aG])
    refine taken 6 (v:=?_) rfl (by kernel_rfl) (λ_ _ _ h=>h) dZ (by first|(with_reducible rfl)|kernel_rfl) ?_ ?_
    rotate_left
    ·(intro w fO;(try dsimp only at fO);go_simp;first|done|with_reducible rfl)
    (try simp only [Act.put,aL,aJ,aK,aH,aF,aG])
    refine taken 7 (v:=?_) rfl (by kernel_rfl) (λ_ _ _ h=>h) dZ (by first|(with_reducible rfl)|kernel_rfl) ?_ ?_
    rotate_left
    ·(intro w fO;(try dsimp only at fO);go_simp;first|done|with_reducible rfl)
    (try simp only [Act.put,aL,aJ,aK,aH,aF,aG])
    refine taken 8 (v:=?_) rfl (by kernel_rfl) (λ_ _ _ h=>h) dZ (by first|(with_reducible rfl)|kernel_rfl) ?_ ?_
    rotate_left
    ·(intro w fO;(try dsimp only at fO);go_simp;first|done|with_reducible rfl)
    (try simp only [Act.put,aL,aJ,aK,aH,aF,aG])
    refine taken 9 (v:=?_) rfl (by kernel_rfl) (λ_ _ _ h=>h) dZ (by first|(with_reducible rfl)|kernel_rfl) ?_ ?_
    rotate_left
    ·(intro w fO;(try dsimp only at fO);go_simp;first|done|with_reducible rfl)
    (try simp only [Act.put,aL,aJ,aK,aH,aF,aG])
    refine taken 10 (v:=?_) rfl (by kernel_rfl) (λ_ _ _ h=>h) dZ (by first|(with_reducible rfl)|kernel_rfl) ?_ ?_
    rotate_left
    ·(intro w fO;(try dsimp only at fO);go_simp;first|done|with_reducible rfl)
    (try simp only [Act.put,aL,aJ,aK,aH,aF,aG])
    refine taken 11 (v:=?_) rfl (by kernel_rfl) (λ_ _ _ h=>h) dZ (by first|(with_reducible rfl)|kernel_rfl) ?_ ?_
    rotate_left
    ·(intro w fO;(try dsimp only at fO);go_simp;first|done|with_reducible rfl)
    (try simp only [Act.put,aL,aJ,aK,aH,aF,aG])
    refine taken 12 (v:=?_) rfl (by kernel_rfl) (λ_ _ _ h=>h) dZ (by first|(with_reducible rfl)|kernel_rfl) ?_ ?_
    rotate_left
    ·(intro w fO;(try dsimp only at fO);go_simp;first|done|with_reducible rfl)
    (try simp only [Act.put,aL,aJ,aK,aH,aF,aG])
    refine taken 13 (v:=?_) rfl (by kernel_rfl) (λ_ _ _ h=>h) dZ (by first|(with_reducible rfl)|kernel_rfl) ?_ ?_
    rotate_left
    ·(intro w fO;(try dsimp only at fO);go_simp;first|done|with_reducible rfl)
    (try simp only [Act.put,aL,aJ,aK,aH,aF,aG])
    refine wpAnyH_ready (rs:=[0,14]) (by kernel_rfl) (by simp) ?_;refine AllReadyH.cons rfl (λK hK=>?_) (AllReadyH.cons rfl (λK hK=>?_) AllReadyH.nil);all_goals (
     go_simp;clear dZ;refine hK.out _ _ (by (with_reducible first|exact gD.cells JT.o|exact gD.cells yt.o|exact gD.cells rJ.o|exact gD.cells yV.o)) (λdZ=>?_);clear hK K
     (try simp only [Act.put,aL,aJ,aK,aH,aF,aG])
    )
    refine ji 14 (by kernel_rfl) rfl (λK hK=>?_)
    rotate_left
    refine ji 0 (by kernel_rfl) rfl (λK hK=>?_);all_goals (
     go_simp;clear dZ;refine hK.out _ _ (by (with_reducible first|exact gD.cells JT.o|exact gD.cells yt.o|exact gD.cells rJ.o|exact gD.cells yV.o)) (λdZ=>?_);clear hK K
     (try simp only [Act.put,aL,aJ,aK,aH,aF,aG])
     refine ji 15 (by kernel_rfl) rfl (λK hK=>?_);refine zB rfl (.tmp 48) (.tmp 62) 40 40 rfl 44 i0 (.agg #[yj,qn,qn,false,false,yj]) 6 underlying40 HI.o gx.o gJ.o rfl (by decide) B1 (.slice Au vr.o.length cu) vr.o.length (FP vr.o) rfl HVx.o.own (.slice (some wm) 1 1) rfl 1 [.string (bs (ahead++g)),.int .i64 x.id.1,.int .i64 x.id.2,.bool x.dir,.bool false,.string (bs x.mf)] HSx.o H63.o HBy.o HVx.o.hB ?_;intro v' w5 hown hgrow fR;obtain ⟨A5,c5,rfl⟩:=dQ.isSlice hown;have Ct:=hbo.o HVx.o hgrow;have aeA:w5.cell? bo=Qq Au vr.o.length cu:=Ct.cell 0;have aeB:w5.frozen? ⟨bo,0,none⟩=false:=Ct.frozen 0;have yt:=dL (hkeep.o hgrow);have JT:=dL (gD.of_heap yt.o (bU w5 ⟨bo,0,none⟩ (.slice A5 (vr.o.length+1) c5) wr HNo.o.1) (bU w5 ⟨bo,0,none⟩ (.slice A5 (vr.o.length+1) c5) b2 HNo.o.2));have Xd:=dL (HVx.o.push (x:=kI ahead (x,g)) hown hgrow);have RG:=dL (((HKm.o.below (((aC _ wm).alloc (aB _) (.cells #[.string (bs (ahead++g)),x.id.1,x.id.2,x.dir,false,x.mf] 44)).drew)).push hgrow (fR.imp _root_.id (λe=>e.trans (by simp)))).store (.slice A5 (vr.o.length+1) c5));clear hown hgrow fR Ct;clear dZ;refine hK.out _ _ (by (with_reducible first|exact gD.cells JT.o|exact gD.cells yt.o|exact gD.cells rJ.o|exact gD.cells yV.o)) (λdZ=>?_);clear hK K
     (try simp only [Act.put,aL,aJ,aK,aH,aF,aG])
     refine ji 16 (by kernel_rfl) rfl (λK hK=>?_);go_simp;clear dZ;refine hK.out _ _ (by (with_reducible first|exact gD.cells JT.o|exact gD.cells yt.o|exact gD.cells rJ.o|exact gD.cells yV.o)) (λdZ=>?_);clear hK K
     (try simp only [Act.put,aL,aJ,aK,aH,aF,aG])
     refine wpAnyH_done (by kernel_rfl) ?_ _
    )
    all_goals
     clear dZ HO0 QM aeA aeB o0 of;go_wp2_with fail;exact ⟨⟨j+1,.slice A5 (vr.o.length+1) c5,⟨vr.met++[x.id],vr.o++[kI ahead (x,g)]⟩,by go_num,by omega,Xd.o,HBp.o,RG.o,HE.o⟩,by simp [intOf];omega⟩
  ·have hjz:¬ (j:Int) < (ks.length:Int):=by omega
   have QD:kG.drop j=[]:=List.drop_of_length_le (by omega);rw [QD,wh] at hE;have zZ:dK (jL xs k s ahead v=lD (gK xs k) ahead kG vr):=by show _=_;rw [hDE.o,<-hE.o];rfl
   have Lx:dK (0 < ks.length->0 < k):=λh=>by
    rcases Nat.eq_zero_or_pos k with rfl|h'
    ·exfalso
     have hkg:kG≠[]:=λe=>by rw [e] at hkl;simp at hkl;omega
     cases adw:kG with
     |nil=>exact hkg adw
     |cons q r=>
      have:=hE.o;rw [adw,wh,if_pos (.inl rfl)] at this;cases this
    ·exact h'
   have HVr:=dL IX;have oT:=dL pM;have HKr:=dL hKr;clear IX pM hKr ue tu hE QD hj hge;obtain ⟨v1,CR⟩:∃z,z=vr:=⟨_,rfl⟩;rw [<-CR] at zZ HVr oT;clear CR;go_wp2_with fail;go_loopw [67] (λi wq=>∃(j:Nat) (uq:Value) (vq:Vw),i=.int .i64 j/\j<=ks.length/\VI w0 wq bn bm bo bd M B1 (.slice A n c) uq vq/\NP xs vq/\KV bo M w3 wq u uq/\dK (lD (gK xs k) ahead (kG.drop j) vq=lD (gK xs k) ahead kG v1)) (λi _=>ks.length - (intOf i).toNat)
   case atStart=>exact ⟨0,ur,v1,rfl,aS _,HVr.o,oT.o,HKr.o,rfl⟩
   case round=>
    clear HVr oT HKr;obtain ⟨j,uq,vq,rfl,hj,IX,pM,hKr,hE⟩:=hrel;have ue:=HV.o.list mJ.o hKr;have tu:=HV.o.list Ja.o hKr;have Lw:Short ks:=λx h=>Ti.o x (hks.o x h)
    rcases aD j ks.length with hlt|hge
    ·have hjz:(j:Int) < (ks.length:Int):=by omega
     have hk0:=Lx.o (by omega);obtain ⟨b,off,rfl,jW,c0,c1,c2,c3,c4,c5,c6,_⟩:=lu.at_ (Own.nds' ue Lw) hlt;have hq:=HQ.o j hlt (by omega);have qK:=HGr.o (gs[j]'(by omega)) (aa _);obtain ⟨b2,off2,rfl,_,hcs,_⟩:=Strs.at_ (fm.strs' qY tu HSg.o) (show j < gs.length by omega);generalize ks[j]=x at*;generalize gs[j]'(by omega)=g at*;rw [hq,lD] at hE;have vS:=IX.alloc (.cells #[x.id.1,x.id.2,x.dir,x.par.1,x.par.2,x.nm,x.mf] 38);obtain ⟨g0,g1,g2,g3,g4,g5,g6⟩:=eW (Blk.new wr 38 (nc x).toArray);unfold nc at g0 g1 g2 g3 g4 g5 g6;cases CZ:x.dir with
     |false=>
      rw [CZ] at hE vS c2 g0 g1 g2 g3 g4 g5 g6;simp only [bp,if_false] at hE;have Xd:=dL vS;have qA:=dL pM;have RG:=dL (hKr.below ((aC _ wr).alloc (aB _) (.cells #[x.id.1,x.id.2,false,x.par.1,x.par.2,x.nm,x.mf] 38)));have HE:=dL hE;clear vS IX pM hKr ue tu hE hq CZ;go_wp2_with fail;exact ⟨⟨j+1,uq,vq,by go_num,by omega,Xd.o,qA.o,RG.o,HE.o⟩,by simp [intOf];omega⟩
     |true=>
      rw [CZ] at hE vS c2 g0 g1 g2 g3 g4 g5 g6;simp only [if_true] at hE;have aez:g.length<=24:=(fe.1 qK).2.1;have hal:ahead.length<=400:=by omega
      have hsum:¬ (9223372036854775807 < ahead.length+g.length):=by omega
      have aga:¬ (9223372036854775807 < ahead.length+g.length+1):=by omega
      have QN:bs (ahead++g)++(⟨#[47]⟩:ByteArray)=bs (ahead++g++[47]):=dP (ahead++g) [47];have d0:=vS.db.cell 0;simp only [aO,aT,oe] at d0;have agx:=cell?_alloc_old hcs (.cells #[x.id.1,x.id.2,true,x.par.1,x.par.2,x.nm,x.mf] 38);have hlen:(ahead++g++[47]).length<=25*(dp+1):=by simp;omega
      have wB:=dL (aex.o hk0 x.id (ahead++g++[47]) uq vq _ hlen vS.drew pM);have RG:=dL (hKr.below ((aC _ wr).alloc (aB _) (.cells #[x.id.1,x.id.2,true,x.par.1,x.par.2,x.nm,x.mf] 38)).drew);obtain ⟨ah2,Yc⟩:∃z,z=ahead++g++[47]:=⟨_,rfl⟩;rw [<-Yc] at QN wB hE;have HE:=dL hE;have HAh:=dL Yc;clear vS IX pM hKr ue tu hE hq CZ hlen Yc hcs;go_wp2_with fail;refine iJ (C:=λw'=>w'=(wr.alloc (.cells #[x.id.1,x.id.2,true,x.par.1,x.par.2,x.nm,x.mf] 38)).drew) 12 (by kernel_rfl) (by kernel_rfl) rfl ?_;simp only [dA,List.take_zero,List.drop_succ_cons,bz];repeat (go_big_quiet_step (fail))
      refine wpQuiet_nil ?_;rintro _ rfl;go_wp2_with fail;refine wB.o.mono ?_;rintro e w4 (⟨v',u',hr',rfl,hV4,kP,hK4⟩| ⟨hr',rfl,hb4⟩)
      ·have VQ:dK (lD (gK xs k) ahead (kG.drop (j+1)) v'=lD (gK xs k) ahead kG v1):=by
        have:=HE.o;rw [hr'] at this;exact this
       have Xd:=dL hV4;have qA:=dL kP;have aeC:=dL (RG.o.trans hK4);clear hr' hV4 kP hK4;go_wp2_with fail;exact ⟨⟨j+1,u',v',by go_num,by omega,Xd.o,qA.o,aeC.o,VQ.o⟩,by simp [intOf];omega⟩
      ·have HF:dK (jL xs k s ahead v=none):=by
        have:=HE.o;rw [hr'] at this;show _=_;rw [zZ.o,<-dK.o this];rfl
       have qA:=dL hb4;clear hr' hb4;go_wp2_with fail;go_ret;exact .inr ⟨HF.o,rfl,qA.o⟩
    ·have hjz:¬ (j:Int) < (ks.length:Int):=by omega
     have QD:kG.drop j=[]:=List.drop_of_length_le (by omega);rw [QD,lD] at hE;have HF:dK (jL xs k s ahead v=some vq):=by show _=_;rw [zZ.o,<-hE.o]
     have Xd:=dL IX;have qA:=dL pM;have RG:=dL ((KV.of_below eC.o).trans hKr);clear IX pM hKr ue tu hE QD hj hge;go_wp2_with fail;go_ret;exact .inl ⟨vq,uq,HF.o,rfl,Xd.o,qA.o,RG.o⟩
end
end Go.Proofs.YtgdaahffmcfhpaaGreatDoor
