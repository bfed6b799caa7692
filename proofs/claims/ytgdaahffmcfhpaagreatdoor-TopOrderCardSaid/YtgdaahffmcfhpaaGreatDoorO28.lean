/- Lemmas on the way: VMi VMo. -/
import Derived.Test.YtgdaahffmcfhpaaGreatDoorO26
set_option maxRecDepth 100000
set_option maxHeartbeats 8000000
namespace Go.Proofs.YtgdaahffmcfhpaaGreatDoor
open aA
open Tryz
section
set_option linter.unusedSimpArgs false
set_option linter.unusedVariables false
open Go.RowKit
attribute [local go_sem] dR dO dS dP
theorem GS (s:St) (A:Option Addr) (c:Nat) (L:List dX) (w:World) (h:Z1 w A L.length c (fT L)) (hn:L.length<=1000000) (hs:gQ L):
  Calls prog 34 #[Qq A L.length c,sv s,.func (.func 35) #[] #[]] w (dM w (.tuple #[.int .i64 (oy L s),(xO L s)])):=by
 have hop:∀j (hj:j < (fT L).length),(fT L)[j].op.st=(L[j]'(by rw [eP] at hj;exact hj)).st:=λj hj=>by
  rw [tO L j (by rw [eP] at hj;exact hj)];rfl
 refine (GL s A L.length c (fT L) w h hn ?_).mono ?_
 ·intro i j hi hj hij hc
  rw [hop] at hc ⊢;rw [xM] at hc ⊢;rcases aD i j with hlt|hge
  ·exact jk (hs.at_ _ _ hlt) hc
  ·obtain rfl:i=j:=by omega
   exact hc
 ·rintro e w' ⟨a,t,ha,hlo,hhi,ht,rfl,hb⟩
  rw [eP] at ha;have fR:oy L s=a:=qR _ L a ha (λj hj hlt=>by
   have:=hlo j (by rw [eP];exact hj) hlt;rw [hop,xM] at this;exact this) (λj hj hle=>by
   have:=hhi j (by rw [eP];exact hj) hle;rw [hop,xM] at this;simpa using this)
  have hth:t=xO L s:=by
   rw [ht];unfold xO;rw [fR];apply decide_eq_decide.2;constructor
   ·rintro ⟨h1,h2⟩
    refine ⟨by rw [eP] at h1;exact h1,?_⟩;rw [hop,Aa] at h2;exact h2
   ·rintro ⟨h1,h2⟩
    refine ⟨by rw [eP];exact h1,?_⟩;rw [hop,Aa];exact h2
  refine ⟨by rw [fR,<-hth],hb⟩
variable {w w':World} {v:Value} {r:Int} {es:List Nd} {j p m B n g k i:Nat}
theorem kY.grownO {row:Option Nat} (h:kY w p m v r es) (k:w.grownBy w' row) (hp:some p≠row) (hm:some m≠row):kY w' p m v r es:=⟨h.blk.grown k hp,h.map.grown k hm⟩
theorem kY.setR (h:kY w p m v r es) (r':Int):kY (w.setCell (Qc p 2) r') p m v r' es:=by
 have h1:=Blk.set_ h.blk 2 (.int .i64 r');exact ⟨by simpa using h1,h.map.grown (dh (dz w _) (.inl rfl) _) (λe=>h.map.ne_blk h.blk (aX e))⟩
theorem kY.setV (h:kY w p m v r es) (v':Value):kY (w.setCell p v') p m v' r es:=by
 have h1:=Blk.set_ h.blk 0 v';exact ⟨by simpa using h1,h.map.grown (dh (dz w _) (.inl rfl) _) (λe=>h.map.ne_blk h.blk (aX e))⟩
theorem dQ.apart {size:Nat} {xs:List Value} (h:dQ w B size v n xs) (hne:v.ownBlock≠some g) (u:Value) (i:Nat):dQ (w.setCell (Qc g i) u) B size v n xs:=
 h.kept (dh (dz w g) (.inl rfl) u) (.inr hne)
theorem Ac.setR {w:World} {B p m:Nat} {v:Value} {r:Int} {R:List Rec} {es:List Nd} (h:Ac w B p m v r R es) (r':Int):Ac (w.setCell (Qc p 2) r') B p m v r' R es:=
 ⟨h.stt.setR r',dQ.apart h.log h.nep _ _,h.nep,h.nem⟩
def L3 (x:dX):Rec:=⟨x,nd0,false,false⟩
theorem C2 (R:List Rec):∀u∈rcs R,u.oneCell'=true:=by
 intro u hu;obtain ⟨d,_,hd⟩:=List.mem_flatMap.1 hu;simp only [rc,oc,nc,bC,ak,aQ,bH,or_false] at hd;rcases hd with rfl|rfl|rfl|rfl|rfl|rfl|rfl|rfl|rfl|rfl|rfl|rfl|rfl|rfl|rfl|rfl|rfl|rfl|rfl|rfl <;> rfl
theorem qq (a b:List Rec):rcs (a++b)=rcs a++rcs b:=by simp [rcs]
theorem OC (R:List Rec) (k:Nat) (hk:k<=R.length):(rcs R).take (k*20)=rcs (R.take k):=by
 have h:rcs R=rcs (R.take k)++rcs (R.drop k):=by rw [<-qq,bV]
 rw [h,List.take_left' (by rw [vm,aR];congr 1;omega)]
theorem OD (R:List Rec) (k:Nat) (hk:k<=R.length):(rcs R).drop (k*20)=rcs (R.drop k):=by
 have h:rcs R=rcs (R.take k)++rcs (R.drop k):=by rw [<-qq,bV]
 rw [h,List.drop_left' (by rw [vm,aR];congr 1;omega)]
variable {R:List Rec}
theorem Log.inserted {d:Rec} {e:Ending} (hk:k<=R.length) (h:iL B w v R.length k (rcs R) (rc d) e w'):
  ∃A n c,n=R.length+1/\e=.returned (.slice A n c)/\Log w' B (.slice A n c) (R.take k++d :: R.drop k)/\w.grownBy w' v.ownBlock/\((Value.slice A n c).ownBlock=v.ownBlock\/(Value.slice A n c).ownBlock=some w.heap.size):=by
 obtain ⟨v',rfl,ho,hg,fR⟩:=h;obtain ⟨A,c,rfl⟩:=ho.isSlice;refine ⟨A,_,c,rfl,rfl,?_,hg,fR⟩;have hl:(R.take k++d :: R.drop k).length=R.length+1:=by simp;omega
 have he:rcs (R.take k++d :: R.drop k)=(rcs R).take (k*20)++(rc d++(rcs R).drop (k*20)):=by
  rw [qq,OC R k hk,OD R k hk];rfl
 show dQ w' B 20 _ _ _;rw [hl,he];exact ho
theorem EA (L:List dX):∀es,(fQ es L).map (·.op)=L:=by
 induction L with
 |nil=>intro es;rfl
 |cons x L ih=>intro es;simp [fQ,ih];rfl
theorem L4 (L:List dX):(fT L).map (·.op)=L:=EA L []
theorem vD (a b:List dX):∀es,fQ es (a++b)=fQ es a++fQ (a.foldl uQ es) b:=by
 induction a with
 |nil=>intro es;rfl
 |cons x a ih=>intro es;simp [fQ,ih]
theorem EB (L:List dX) (x:dX):fT (L++[x])=fT L++[AY (i6 L) x]:=by
 unfold fT;rw [vD];rfl
structure sH (R:List Rec) (L:List dX) (j:Nat):Prop where
 op:R.map (·.op)=L
 take:R.take j=fT (L.take j)
theorem sH.start (L:List dX) (x:dX):sH ((fT L).take (oy L x.st)++L3 x :: (fT L).drop (oy L x.st)) (qJ L x) (oy L x.st):=by
 have hle:=Bv L x.st;constructor
 ·unfold qJ
  simp only [bQ,bB,List.map_take,List.map_drop,L4];rfl
 ·rw [Ab,<-Dx,List.take_append_of_le_length (by rw [aR,eP];omega),List.take_take,Nat.min_self]
variable {L:List dX}
theorem sH.len (h:sH R L j):R.length=L.length:=by rw [<-h.op,bJ]
theorem sH.at_ (h:sH R L j) (hi:i < R.length):R[i].op=L[i]'(by rw [<-h.len];exact hi):=by
 have:=h.op;subst this;simp
theorem sH.next (h:sH R L j) (hj:j < L.length):sH (R.set j (AY (i6 (L.take j)) L[j])) L (j+1):=by
 have hr:=h.len;constructor
 ·rw [List.map_set,h.op]
  show L.set j L[j]=L;simp
 ·rw [ay (by rw [cT];omega),List.getElem_set_self,List.take_set_of_le (aB _),h.take,ay hj,EB]
theorem sH.all (h:sH R L L.length):R=fT L:=by
 have:=h.take;rw [cD,<-h.len,cD] at this;exact this
theorem Ac.did_ {c:Nat} {es':List Nd} {d:Rec} (hn:R.length=n) (h:Ac w B p m (.slice (some g) n c) r R es) (hk:k < R.length) (hd:vC w w' g (k*20) p m (.slice (some g) n c) r d es'):
  Ac w' B p m (.slice (some g) n c) r (R.set k d) es':=by
 subst hn;exact h.did hk hd
def Zz (w:World) (B p m:Nat) (v:Value) (r:Int) (L:List dX) (x:dX) (e:Ending) (w':World):Prop:=
 ∃v' r',e=.returned (.int .i64 (iT L x))/\Us w' B p m v' r' (lI L x)/\fc w w' p m v/\(∀g,v'.ownBlock=some g->v.ownBlock=some g\/w.heap.size<=g)/\
  (iT L x=0->r'=L.length - oy L x.st)/\(iT L x≠0->r'=r)
theorem Ad (x:dX) (B p m:Nat) (v:Value) (r:Int) (L:List dX) (w:World) (h:Us w B p m v r L) (hB:B<=w.heap.size):
  Calls prog 9 #[Qp p,ov x] w (Zz w B p m v r L x):=by
 have dV:=dH w (.cells (oc x).toArray 32);have hBk:=Blk.new w 32 (oc x).toArray;obtain ⟨w1,hw1⟩:=dG (w.alloc (.cells (oc x).toArray 32));rw [<-hw1] at dV hBk;have h1:=h.below dV;have HW:=dL hw1;have eR:=dL dV;have mK:=dL hBk;have HM:=dL h;have VR:=dL h1;have To:=dL hB;have x0:=hBk.cell 0;have x1:=hBk.cell 1;unfold oc at HW x0 x1;simp only [aO,aT,aZ] at x0 x1;clear hw1 dV hBk h h1 hB;unfold ov;generalize hQ:Zz w B p m v r L x=Q;have HQ:=dL hQ;clear hQ;go_enter func9,ntmps9;go_wp2_with fail;rw [<-HW.o];cases hr:rightS x.st with
 |false=>
  have HR:=dL hr;go_wp2_with (go_at_call 31;refine (lH _ _).mono ?_;rintro e w2 ⟨rfl,dY⟩;rw [HR.o];have eA:=dL dY;clear dY)
  rw [<-HQ.o];have hc:iT L x=20:=by unfold iT;rw [HR.o];rfl
  refine ⟨v,r,by rw [hc];rfl,?_,?_,λg hg=>.inl hg,λh0=>by omega,λ_=>rfl⟩
  ·have:lI L x=L:=by unfold lI;rw [if_neg (by omega)]
   rw [this];exact VR.o.below eA.o
  ·exact (fc.ofBelow eR.o p m v).below eA.o
 |true=>
  have HR:=dL hr;go_upto_region 6 with (go_at_call 31;refine (lH _ _).mono ?_;rintro e w2 ⟨rfl,dY⟩;rw [HR.o];have eA:=dL dY;clear dY)
  have F7:=dL (VR.o.below eA.o);have c0:=F7.o.s3.stt.c0;obtain ⟨A,c,rfl,hrd⟩:=F7.o.s3.log.rds;rw [eP] at hrd c0;have k0:=λu:eE w2=>u.cell c0
  have k1:=λu:eE w2=>u.cell (dU eA.o mK.o.lt x0)
  have k2:=λu:eE w2=>u.cell (dU eA.o mK.o.lt x1)
  obtain ⟨at_,fR⟩:∃a,a=oy L x.st:=⟨_,rfl⟩;obtain ⟨hs_,Zn⟩:∃b,b=xO L x.st:=⟨_,rfl⟩;have VS:∀u:eE w2,Calls prog 34 #[Qq A L.length c,sv x.st,.func (.func 35) #[] #[]] u.wd λe w''=>e=.returned (.tuple #[at_,hs_])/\∃y:eE w2,w''=y.wd:=λu=>by
   rw [fR,Zn];exact gX (GS x.st A c L u.wd (hrd.below u.below) (by have:=HM.o.len;omega) HM.o.sorted)
  have HS:=dL VS;have QW:=dL fR;have HHs:=dL Zn;clear VS hrd fR Zn c0;refine eo (by kernel_rfl) (by kernel_rfl) ?_;repeat (go_big_quiet_step (exact HS.o _))
  refine wpQuiet_nil ?_;rintro _ ⟨u,rfl⟩;have RL:=dL (F7.o.below u.below);have eC:=dL (eA.o.trans (u.below.mono eA.o.size));clear k0 k1 k2 HS x0 x1 hr;obtain ⟨w3,jD⟩:=dG u.wd;rw [<-jD] at RL eC ⊢;clear jD u;cases hs_ with
  |true=>
   go_wp2_with fail;rw [<-HQ.o];have hc:iT L x=24:=by unfold iT;rw [HR.o,<-HHs.o];rfl
   refine ⟨_,r,by rw [hc];rfl,?_,?_,λg hg=>.inl hg,λh0=>by omega,λ_=>rfl⟩
   ·have:lI L x=L:=by unfold lI;rw [if_neg (by omega)]
    rw [this];exact RL.o
   ·exact (fc.ofBelow eR.o p m _).below eC.o
  |false=>
   have c0:=RL.o.s3.stt.c0;rw [eP] at c0;by_cases hbig:L.length≥400
   ·have hd:decide ((L.length:Int)≥400)=true:=by simp;omega
    go_wp2_with fail;rw [<-HQ.o];have hc:iT L x=40:=by unfold iT;rw [HR.o,<-HHs.o];simp [hbig]
    refine ⟨_,r,by rw [hc];rfl,?_,?_,λg hg=>.inl hg,λh0=>by omega,λ_=>rfl⟩
    ·have:lI L x=L:=by unfold lI;rw [if_neg (by omega)]
     rw [this];exact RL.o
    ·exact (fc.ofBelow eR.o p m _).below eC.o
   ·have hd:decide ((L.length:Int)≥400)=false:=by simp;omega
    go_wp2_with fail;have aeG:=dL (mK.o.below eC.o mK.o.lt);have hal:at_<=L.length:=by rw [QW.o];exact Bv _ _
    have h0:0<=at_:=aS _;have qB:=dL ((fc.ofBelow eR.o p m (.slice A L.length c)).below eC.o);have hs3:=RL.o.s3;rw [eP] at hs3;have B8:=dL hs3;clear hd c0 hs3;go_loopw [8] (λi wr=>∃k:Nat,at_<=k/\k<=L.length/\i=.int .i64 ((k:Int) - 1)/\Ac wr B p m (.slice A L.length c) r (fT L) (i6 (L.take k))/\fc w wr p m (.slice A L.length c)/\Blk wr w 32 (oc x).toArray) (λi _=>(intOf i+1).toNat)
    case atStart=>exact ⟨L.length,hal,aB _,rfl,by rw [cD];exact B8.o,qB.o,aeG.o⟩
    case round=>
     obtain ⟨k,hk1,hk2,rfl,hS,hK,hX⟩:=hrel;rcases aD at_ k with hlt|hge
     ·obtain ⟨j,rfl⟩:∃j,k=j+1:=⟨k - 1,by omega⟩
      have ej:((j+1:Nat):Int) - 1=(j:Int):=by omega
      rw [ej];clear ej;have hj:j < L.length:=by omega
      have hjr:j < (fT L).length:=by rw [eP];exact hj
      obtain ⟨g,c2,e2,hown,hnc,hcm,rA,hfr⟩:=Log.at_ hS.log hjr;rw [eP] at e2 hnc;cases e2;rw [tO L j hj] at rA;have c0:=hS.stt.c0;have hU:=SQ _ g (j*20) p m _ r _ wr rA (λhh=>sB hh) hS.stt;rw [xL hj,SV] at hU;have HU:=dL hU;have HS:=dL hS;have HK:=dL hK;have HX:=dL hX;have aeH:(j:Int)≥(at_:Int):=by omega
      have hlt2:(j:Int) < (L.length:Int):=by omega
      clear hS hK hX hU rA hfr hown;go_wp2_with (go_at_call 38;refine HU.o.mono ?_;rintro e w4 ⟨rfl,hs4,hg4⟩;have H4:=dL (HS.o.undo hs4 hg4);have HG:=dL hg4;clear hs4 hg4)
      refine ⟨⟨j,by omega,by omega,rfl,H4.o,HK.o.grown HG.o (.inr (.inl rfl)),HX.o.grown HG.o (λe=>HS.o.stt.map.ne_blk HX.o (aX e).symm)⟩,?_⟩;simp [intOf]
     ·obtain rfl:k=at_:=by omega
      have hd:decide ((k:Int) - 1≥(k:Int))=false:=by simp;omega
      have HS:=dL hS;have HK:=dL hK;have HX:=dL hX;clear hS hK hX;have c0:=HS.o.stt.c0;have c2:=HS.o.stt.c2;have f2:=HS.o.stt.blk.frozen 2;have H5:=dL (HS.o.setR ((L.length:Int) - (k:Int)));have K5:=dL (HK.o.grown (dh (dz wr p) (p:=Qc p 2) (.inl rfl) (.int .i64 ((L.length:Int) - (k:Int)))) (.inl rfl));have hnp:w.heap.size≠p:=λe=>by
       have h1:=HS.o.stt.blk;have h2:=HX.o;rw [e] at h2;unfold Blk at h1 h2;rw [h1] at h2;injection h2 with h2
       injection h2 with h3 h4 h5
       cases h4
      have HNp:=dL hnp;have hxo:(Value.slice A L.length c).ownBlock≠some w.heap.size:=λe=>by
       have:=(dQ.ge HM.o.s3.log w (by rw [eP];exact e)).2;omega
      have HXo:=dL hxo;have X5:=dL (Blk.far HX.o (p:=Qc p 2) hnp (.int .i64 ((L.length:Int) - (k:Int))));clear hnp hxo;go_upto_region 16 with (fail);clear c0 c2 f2;obtain ⟨w5,iB⟩:=dG (wr.setCell (Qc p 2) (.int .i64 ((L.length:Int) - (k:Int))));rw [<-iB] at H5 K5 X5 ⊢;clear iB;have c0:=H5.o.stt.c0;obtain ⟨x0,x1,x2,x3,x4,x5,x6,x7,x8,x9,x10⟩:=dx X5.o;have Ct:∀gg,(Value.slice A L.length c).ownBlock=some gg->gg < w5.heap.size:=λgg e=>(dQ.ge H5.o.log gg e).2
      obtain ⟨w6,uF⟩:=dG ((w5.alloc (.cells #[x.st.1,x.st.2,x.seq,x.kind,x.node.1,x.node.2,x.dir,x.par.1,x.par.2,x.nm,x.mf,qn,qn,false,qn,qn,yj,yj,false,false] 84)).drew);have Tp:Below w5 w5 w6:=by rw [uF];exact ((aC _ w5).alloc (aB _) _).drew
      have Ma:Blk w6 w5 84 (rc (L3 x)).toArray:=by rw [uF];exact (Blk.new w5 84 _).drew
      have hI:=Bq B (.slice A L.length c) L.length k (rcs (fT L)) (rc (L3 x)) w5 1 w6 (by have:=dQ.below H5.o.log Tp;rw [eP] at this;exact this) (by omega) (by omega) rfl (C2 _) (λu hu=>C2 [L3 x] u (by simpa [rcs] using hu)) Ma (λe=>by have:=Ct _ e;omega) (by have:=To.o;have:=K5.o.size;have:=Tp.size;omega);rw [show L.length=(fT L).length from (eP L).symm] at hI;have Ta:=hI.mono (λe w7 hh=>Log.inserted (by rw [eP];exact hal) hh);rw [eP] at Ta;have HI:=dL Ta;have Ly:=dL Tp;have Mb:=dL uF;clear uF Tp Ma hI Ta Ct;have X6:=dL (X5.o.below Ly.o X5.o.lt);rw [Mb.o] at X6;have c06:(w5.alloc (.cells #[x.st.1,x.st.2,x.seq,x.kind,x.node.1,x.node.2,x.dir,x.par.1,x.par.2,x.nm,x.mf,qn,qn,false,qn,qn,yj,yj,false,false] 84)).cell? p=Qq A L.length c:=cell?_alloc_old c0 _;refine wp_region_held_drew (S:=(λw'=>w'.cell? w=x.st.1/\w'.cell? (Qc w 1)=x.st.2/\w'.cell? (Qc w 2)=x.seq/\w'.cell? (Qc w 3)=x.kind/\w'.cell? (Qc w 4)=x.node.1/\w'.cell? (Qc w 5)=x.node.2/\w'.cell? (Qc w 6)=x.dir/\w'.cell? (Qc w 7)=x.par.1/\w'.cell? (Qc w 8)=x.par.2/\w'.cell? (Qc w 9)=x.nm/\w'.cell? (Qc w 10)=x.mf)) (by kernel_rfl) (dx (Blk.drew X5.o)) (λdZ=>?_);refine taken 0 (v:=?_) rfl (by kernel_rfl) (λ_ _ _ h=>h) dZ (by first|(with_reducible rfl)|kernel_rfl) ?_ ?_
      rotate_left
      ·(intro w fO;(try dsimp only at fO);go_simp;first|done|with_reducible rfl)
      (try simp only [Act.put,aL,aJ,aK,aH,aF,aG])
      refine taken 1 (v:=?_) rfl (by kernel_rfl) (λ_ _ _ h=>h) dZ (by first|(with_reducible rfl)|kernel_rfl) ?_ ?_
      rotate_left
      ·(intro w fO;(try dsimp only at fO);go_simp;first|done|with_reducible rfl)
      (try simp only [Act.put,aL,aJ,aK,aH,aF,aG])
      refine taken 2 (v:=?_) rfl (by kernel_rfl) (λ_ _ _ h=>h) dZ (by first|(with_reducible rfl)|kernel_rfl) ?_ ?_
      rotate_left
      ·(intro w fO;(try dsimp only at fO);go_simp;first|done|with_reducible rfl)
      (try simp only [Act.put,aL,aJ,aK,aH,aF,aG])
      refine taken 3 (v:=?_) rfl (by kernel_rfl) (λ_ _ _ h=>h) dZ (by first|(with_reducible rfl)|kernel_rfl) ?_ ?_
      rotate_left
      ·(intro w fO;(try dsimp only at fO);go_simp;first|done|with_reducible rfl)
      (try simp only [Act.put,aL,aJ,aK,aH,aF,aG])
      refine taken 5 (v:=?_) rfl (by kernel_rfl) (λ_ _ _ h=>h) dZ (by first|(with_reducible rfl)|kernel_rfl) ?_ ?_
      rotate_left
      ·(intro w fO;(try dsimp only at fO);go_simp;first|done|with_reducible rfl)
      (try simp only [Act.put,aL,aJ,aK,aH,aF,aG])
      refine taken 6 (v:=?_) rfl (by kernel_rfl) (λ_ _ _ h=>h) dZ (by first|(with_reducible rfl)|kernel_rfl) ?_ ?_
      rotate_left
      ·(intro w fO;(try dsimp only at fO);go_simp;first|done|with_reducible rfl)
      (try simp only [Act.put,aL,aJ,aK,aH,aF,aG])
      refine taken 7 (v:=?_) rfl (by kernel_rfl) (λ_ _ _ h=>h) dZ (by first|(with_reducible rfl)|kernel_rfl) ?_ ?_
      rotate_left
      ·(intro w fO;(try dsimp only at fO);go_simp;first|done|with_reducible rfl)
      (try simp only [Act.put,aL,aJ,aK,aH,aF,aG])
      refine wpAnyH_ready (rs:=[4,8]) (by kernel_rfl) (by simp) ?_;refine AllReadyH.cons rfl (λK hK=>?_) (AllReadyH.cons rfl (λK hK=>?_) AllReadyH.nil);go_simp;refine hK.out _ _ (by (with_reducible first|exact dx X8.o|exact dx X7.o|exact dx X6.o|exact dx (Blk.drew X5.o))) (λdZ=>?_);clear hK K
      (try simp only [Act.put,aL,aJ,aK,aH,aF,aG])
      refine ji 8 (by kernel_rfl) rfl (λK hK=>?_);go_simp;refine hK.out _ _ (by (with_reducible first|exact dx X8.o|exact dx X7.o|exact dx X6.o|exact dx (Blk.drew X5.o))) (λdZ=>?_);clear hK K
      (try simp only [Act.put,aL,aJ,aK,aH,aF,aG])
      rotate_left
      go_simp;refine hK.out _ _ (by (with_reducible first|exact dx X8.o|exact dx X7.o|exact dx X6.o|exact dx (Blk.drew X5.o))) (λdZ=>?_);clear hK K
      (try simp only [Act.put,aL,aJ,aK,aH,aF,aG])
      refine ji 4 (by kernel_rfl) rfl (λK hK=>?_);go_simp;refine hK.out _ _ (by (with_reducible first|exact dx X8.o|exact dx X7.o|exact dx X6.o|exact dx (Blk.drew X5.o))) (λdZ=>?_);clear hK K
      (try simp only [Act.put,aL,aJ,aK,aH,aF,aG])
      rotate_left
      all_goals (
       refine ji 9 (by kernel_rfl) rfl (λK hK=>?_);go_simp;rw [<-Mb.o];refine HI.o.mono ?_;rintro e w7 ⟨A',_,c',rfl,rfl,Xt,hg7,adG⟩;have HL7:=dL Xt;have HG7:=dL hg7;have abM:=dL adG;have MT:=dL ((H5.o.stt.below Ly.o).grownO hg7 (λe=>H5.o.nep e.symm) (λe=>H5.o.nem e.symm));have c7:=MT.o.c0;have f7:=MT.o.blk.frozen 0;have X7:=dL ((X5.o.below Ly.o X5.o.lt).grown hg7 (λe=>HXo.o e.symm));have X8:=dL (Blk.far X7.o (p:=p) HNp.o (.slice A' (L.length+1) c'));clear Xt hg7 adG;refine hK.out _ _ (by (with_reducible first|exact dx X8.o|exact dx X7.o|exact dx X6.o|exact dx (Blk.drew X5.o))) (λdZ=>?_);clear hK K
       (try simp only [Act.put,aL,aJ,aK,aH,aF,aG])
       refine taken 10 (v:=?_) rfl (by kernel_rfl) (λ_ _ _ h=>h) dZ (by first|(with_reducible rfl)|kernel_rfl) ?_ ?_
       rotate_left
       ·(intro w fO;(try dsimp only at fO);go_simp;first|done|with_reducible rfl)
       (try simp only [Act.put,aL,aJ,aK,aH,aF,aG])
       refine taken 11 (v:=?_) rfl (by kernel_rfl) (λ_ _ _ h=>h) dZ (by first|(with_reducible rfl)|kernel_rfl) ?_ ?_
       rotate_left
       ·(intro w fO;(try dsimp only at fO);go_simp;first|done|with_reducible rfl)
       (try simp only [Act.put,aL,aJ,aK,aH,aF,aG])
       refine ji 12 (by kernel_rfl) rfl (λK hK=>?_);go_simp;refine hK.out _ _ (by (with_reducible first|exact dx X8.o|exact dx X7.o|exact dx X6.o|exact dx (Blk.drew X5.o))) (λdZ=>?_);clear hK K
       (try simp only [Act.put,aL,aJ,aK,aH,aF,aG])
       refine wpAnyH_done (by kernel_rfl) ?_ _;have hS9:Ac (w7.setCell p (Qq A' (L.length+1) c')) B p m (.slice A' (L.length+1) c') ((L.length:Int) - (k:Int)) ((fT L).take k++L3 x :: (fT L).drop k) (i6 (L.take k)):=by
        have hne:∀b,b < w5.heap.size->(Value.slice A L.length c).ownBlock≠some b->(Value.slice A' (L.length+1) c').ownBlock≠some b:=λb hb h e=>by
         rcases abM.o with h2|h2
         ·exact h (h2.symm.trans e)
         ·rw [h2] at e;have:=aX e;have h3:=Ly.o.size;omega
        have hnp:=hne p H5.o.stt.blk.lt H5.o.nep;exact ⟨MT.o.setV _,dQ.apart HL7.o hnp _ _,hnp,hne m H5.o.stt.map.lt H5.o.nem⟩
       have hK9:fc w (w7.setCell p (Qq A' (L.length+1) c')) p m (.slice A L.length c):=
        ((K5.o.below Ly.o).grownO HG7.o (λg e=>.inl e)).grown (dh (dz w7 p) (.inl rfl) _) (.inl rfl)
       have Tq:∀g,(Value.slice A' (L.length+1) c').ownBlock=some g->(Value.slice A L.length c).ownBlock=some g\/w.heap.size<=g:=λg e=>by
        rcases abM.o with h2|h2
        ·exact .inl (h2.symm.trans e)
        ·rw [h2] at e;have:=aX e;have h3:=Ly.o.size;have h4:=K5.o.size;exact .inr (by omega)
       have hH:sH ((fT L).take k++L3 x :: (fT L).drop k) (qJ L x) k:=by
        have:=sH.start L x;rw [<-QW.o] at this;exact this
       have hlen':(qJ L x).length=L.length+1:=O6 L x;have iU:i6 (L.take k)=i6 ((qJ L x).take k):=by
        have:=Ab L x;rw [<-QW.o] at this;rw [this]
       rw [iU] at hS9;obtain ⟨w9,IY⟩:=dG (w7.setCell p (Qq A' (L.length+1) c'));rw [<-IY] at hS9 hK9 ⊢;obtain ⟨LL,hLL⟩:=dG (qJ L x);rw [<-hLL] at hS9 hH hlen';have HH:=dL hH;have Z8:=dL hS9;have Jc:=dL hK9;have abN:=dL Tq;have HLL:=dL hLL;have CW:=dL hlen';clear IY hS9 hK9 Tq hH hLL hlen' iU c0 x0 x1 x2 x3 x4 x5 x6 x7 x8 x9 x10 c06 c7 f7 hd;go_wp2_with fail;go_loopw [9] (λi wr=>∃(j:Nat) (R:List Rec),k<=j/\j<=L.length+1/\i=.int .i64 (j:Int)/\dK (sH R LL j)/\dK (Ac wr B p m (.slice A' (L.length+1) c') ((L.length:Int) - (k:Int)) R (i6 (LL.take j)))/\dK (fc w wr p m (.slice A L.length c))) (λi _=>L.length+1 - (intOf i).toNat)
       case atStart=>exact ⟨k,_,aB _,by omega,rfl,HH,Z8,Jc⟩
       case round=>
        obtain ⟨j,R,hj1,hj2,rfl,HHf,RS,HKr⟩:=hrel;have c0:=RS.o.stt.c0;rcases aD j (L.length+1) with hlt|hge
        ·have QH:R.length=L.length+1:=by rw [HHf.o.len,CW.o]
         have hjr:j < R.length:=by omega
         have hjl:j < LL.length:=by rw [CW.o];exact hlt
         have Lz:=RS.o.log;rw [<-QH] at Lz;obtain ⟨g,c2,e2,hown,hnc,hcm,rA,hfr⟩:=Log.at_ Lz hjr;rw [QH] at hown;cases e2;rw [QH] at hnc;have hpg:p≠g:=λe=>RS.o.nep (by rw [hown,e])
         have Mc:m≠g:=λe=>RS.o.nem (by rw [hown,e])
         have hD:=Zx _ g (j*20) p m _ _ _ wr rA hfr hpg Mc RS.o.stt (by have:=pW (LL.take j);rw [aR] at this;omega);rw [HHf.o.at_ hjr] at hD;have HD:=dL hD;have Xf:=dL hown;have HRl:=dL QH;have HJl:=dL hjl;have hlt2:(j:Int) < (L.length:Int)+1:=by omega
         clear hD hown rA hfr Lz hpg Mc;go_wp2_with (go_at_call 40;refine HD.o.mono ?_;rintro e wd ⟨rfl,adH⟩;have abO:=dL adH;clear adH)
         have hs2:=Ac.did_ QH RS.o hjr abO.o;exact ⟨⟨j+1,_,by omega,by omega,by go_num,dL (HHf.o.next HJl.o),dL (by rw [xL HJl.o];exact hs2),dL (HKr.o.trans (abO.o.keep.toV Xf.o) abN.o)⟩,by simp [intOf];omega⟩
        ·obtain rfl:j=L.length+1:=by omega
         have hlt2:¬ ((L.length+1:Nat):Int) < (L.length:Int)+1:=by omega
         have hH:=HHf.o;have hS:=RS.o;rw [<-CW.o] at hH hS;rw [hH.all,cD] at hS;rw [CW.o] at hS;have HSf:=dL hS;clear hH hS;go_wp2_with fail;rw [<-HQ.o,eP];have hc:iT L x=0:=nX.2 ⟨HR.o,HHs.o.symm,by omega⟩;have hins:lI L x=LL:=by unfold lI;rw [if_pos hc,HLL.o]
         refine ⟨_,(L.length:Int) - (k:Int),by rw [hc],?_,HKr.o,abN.o,λ_=>by rw [QW.o],λh=>absurd hc h⟩;rw [hins];exact ⟨HSf.o,by rw [<-hins];exact uR HM.o.sorted x,by rw [CW.o];omega,HM.o.p_ge,HM.o.m_ge⟩
      )
end
section
open Go.RowKit
attribute [local go_sem] dR dO dS dP
def iw (l:List dX):List Value:=l.flatMap oc
theorem xU (x:dX):(oc x).length=11:=rfl
theorem ng (a b:List dX):iw (a++b)=iw a++iw b:=by simp [iw]
theorem pX (l:List dX):(iw l).length=l.length*11:=by
 induction l with
 |nil=>rfl
 |cons x l ih=>simp only [iw,aj,aP,aY] at ih ⊢;rw [ih,xU];omega
theorem OE (l:List dX) (k j:Nat) (hk:k < l.length) (hj:j < 11):(iw l)[k*11+j]? =(oc l[k])[j]?:=by
 induction l generalizing k with
 |nil=>simp at hk
 |cons x l ih=>
  cases k with
  |zero=>
   simp only [iw,aj];rw [bY (by rw [xU];omega)];simp
  |succ k=>
   have:=ih k (by simpa using hk);simp only [iw,aj] at this ⊢;rw [bt (by rw [xU];omega)];rw [show (k+1)*11+j - (oc x).length=k*11+j from by rw [xU];omega,this];simp
def kK (xs:List dX):Prop:=∀x∈xs,Ir x
abbrev gU (w:World) (B:Nat) (v:Value) (xs:List dX):Prop:=dQ w B 11 v xs.length (iw xs)
variable {w w0 w':World} {A:Option Addr} {xs ys L:List dX} {B n g m:Nat}
theorem mR.short {c:Nat} (h:mR w A n c xs):kK xs:=λx hx=>by
 obtain ⟨j,hj,rfl⟩:=bR.1 hx;obtain ⟨b,off,cs,e,hlt,hl,⟨_,h1,h2⟩,hc⟩:=h.4 j hj;exact ⟨h1,h2⟩
variable {v:Value}
theorem gU.ops (h:gU w B v xs) (hs:kK xs):∃A c,v=.slice A xs.length c/\mR w A xs.length c xs:=by
 rcases h.2 with ⟨rfl,h0⟩| ⟨g,cap,rfl,hb,hlt,hnc,hcm,_,_,hx⟩
 ·obtain rfl:xs=[]:=az h0
  exact ⟨none,0,rfl,Sl.nil_⟩
 ·refine ⟨_,cap,rfl,rfl,hnc,by unfold maxLen at hcm;omega,λi hi=> ⟨g,0,oc xs[i],rfl,hlt,rfl,⟨rfl,hs _ (aa hi)⟩,λj u hu=>?_⟩⟩
  have hj:j < 11:=by
   rcases aD j 11 with h|h
   ·exact h
   ·rw [bD (by rw [xU];exact h)] at hu;cases hu
  rw [aV];exact hx _ u (by rw [OE xs i j hi hj];exact hu)
theorem xV:(prog.info? 32).map (λi=>(i.zero,i.size,i.bytes))=some (some (.agg #[qn,qn,qn,qn,qn,qn,false,qn,qn,yj,yj]),11,104):=by kernel_rfl
theorem xW (x:dX):∀u∈oc x,u.oneCell'=true:=by
 intro u hu;simp only [oc,aQ,bH,or_false] at hu;rcases hu with rfl|rfl|rfl|rfl|rfl|rfl|rfl|rfl|rfl|rfl|rfl <;> rfl
theorem ni (xs:List dX):∀u∈iw xs,u.oneCell'=true:=by
 intro u hu;obtain ⟨x,_,h⟩:=List.mem_flatMap.1 hu;exact xW x u h
theorem Src.op {c:Nat} (x:dX) (h:Blk w g 32 (oc x).toArray):Src prog 11 22 (.slice (some g) 1 c) 1 (iw [x]) w:=
 Src.ofSlice w underlying22 ⟨g,0,none⟩ 1 c (iw [x]) rfl (λj u hu=>by
  have:(Addr.mk g 0 none).add j= ⟨g,j,none⟩:=by unfold Addr.add;split <;> simp_all
  rw [this,h.cell,aO];have h1:iw [x]=oc x:=bG _;rw [h1] at hu;exact hu) (ni _)
theorem Src.ops {c:Nat} (h:mR w A n c xs):Src prog 11 22 (.slice A n c) n (iw xs) w:=by
 have hl:=h.len;rcases Nat.eq_zero_or_pos n with h0|hpos
 ·subst h0
  obtain rfl:=az hl;cases A with
  |none=>exact Src.ofNil w underlying22 c
  |some a=>exact Src.ofSlice w underlying22 a 0 c [] rfl (λj u hu=>by simp at hu) (λu hu=>by cases hu)
 ·obtain ⟨b,off,cs,rfl,_⟩:=h.4 0 (by omega)
  refine Src.ofSlice w underlying22 ⟨b,off,none⟩ n c (iw xs) (by rw [pX,hl]) (λj u hu=>?_) (ni xs);have hj:j < n*11:=by
   rcases aD j (n*11) with h|h
   ·exact h
   ·rw [bD (by rw [pX,hl];exact h)] at hu;cases hu
  have hd:j=j / 11*11+j % 11:=by omega
  have hq:j / 11 < xs.length:=by omega
  rw [hd,OE xs (j / 11) (j % 11) hq (by omega)] at hu;obtain ⟨b2,off2,cs2,e,_,_,⟨rfl,_⟩,hc⟩:=h.4 (j / 11) hq;cases e;have:=hc (j % 11) u hu;rw [bk,<-hd] at this;rw [Addr.add_mid];exact this
theorem Blk.there {t:TypeId} {cs:Array Value} (h:Blk w g t cs) (hn:n<=cs.size):w.there g 0 n:=λj hj=>by
 rw [aV];exact ⟨by rw [h.cell,cG (by omega)];rfl,h.frozen j⟩
theorem tP{P:Program} {ops:Array Oper} {rest:List Oper} {op:Oper} {a:Act} {Q:Exit->Act->World->Prop} (hgd:op.guard=none) (ty:TypeId) (x y:Operand) (ho:op.op=.store ty x y)
  (b o:Nat) (cells:Array Value) (hx:a.eval x=.pointer (some (Qc b o))) (hy:a.eval y=.agg cells)
  (ht:w.there b o cells.size) (hi:(P.info? ty).map (·.size)=some cells.size) (h1:∀v∈cells.toList,v.oneCell'=true)
  (h:∀w',jd w w' b o cells.toList->wpList P ops Q rest (a.put op.dst undef) w'):wpList P ops Q (op :: rest) a w:=
 wpList_store_mid hgd ty x y ho b o cells hx hy ht hi (by have:=all_oneCell_toArray h1;simpa using this) (h _ (jd.cells w b o _ (λj hj=>(ht j (by simpa using hj)).1)))
structure lN (B:Nat) (w0 w:World) (v:Value) (ys:List dX):Prop where
 own:gU w B v ys
 below:Below B w0 w
 le:B<=w.heap.size
theorem lN.nil_ {B:Nat} {w0 w:World} (hb:Below B w0 w) (hs:B<=w.heap.size):lN B w0 w (.slice none 0 0) []:=⟨dQ.nil_ _ _ _,hb,hs⟩
theorem lN.more {v':Value} {zs:List dX} (h:lN B w0 w v ys) (hm:zs.length=m) (ho:dQ w' B 11 v' (ys.length+m) (iw ys++iw zs)) (hg:w.grownBy w' v.ownBlock):lN B w0 w' v' (ys++zs):=by
 refine ⟨?_,h.below.grown hg h.le (λk hk=>(h.own.ge k hk).1),aI h.le hg.size⟩;show dQ w' B 11 v' (ys++zs).length (iw (ys++zs));rw [aP,hm,ng];exact ho
theorem lN.alloc {B:Nat} {w0 w:World} {v:Value} {ys:List dX} (h:lN B w0 w v ys) (o:Obj):lN B w0 (w.alloc o) v ys:=⟨dQ.alloc h.own o,h.below.alloc h.le o,aI h.le (by simp)⟩
theorem lN.ne_new (h:lN B w0 w v ys):v.ownBlock≠some w.heap.size:=λe=>by
 have:=(h.own.ge _ e).2;omega
theorem lN.wrote {o:Obj} {news:List Value} (h:lN B w0 w v ys) (hw:jd (w.alloc o) w' w 0 news):lN B w0 w' v ys:=
 ⟨(dQ.alloc h.own o).kept hw.grown (.inr h.ne_new),(h.below.alloc h.le o).grown hw.grown (aI h.le (by simp)) (λk hk=>by cases hk;exact h.le),aI (aI h.le (by simp)) hw.grown.size⟩
theorem lN.own_at{k:Nat} (h:lN B w0 w v (L.take k)) (hk:k<=L.length):dQ w B 11 v k (iw (L.take k)):=by
 have:=h.own;unfold gU at this;rw [aR,Nat.min_eq_left hk] at this;exact this
theorem WM (B p m:Nat) (v:Value) (r:Int) (L:List dX) (w:World) (h:Us w B p m v r L):
  Calls prog 23 #[Qp p] w λe w'=>∃v',e=.returned v'/\lN w w w' v' L:=by
 obtain ⟨i0,gV,hz0,hz1,hz2⟩:=info_parts xV;have HI:=dL gV;have gx:=dL hz0;have gJ:=dL hz1;have gT:=dL hz2;clear gV hz0 hz1 hz2;have hlen:=h.len;obtain ⟨A,c,rfl,hrd⟩:=h.s3.log.rds;rw [eP] at hrd;have c0:=h.s3.stt.c0;rw [eP] at c0;have hcm:=hrd.2.2.1;have hcl:=hrd.2.1;have HR:=dL hrd;clear h hrd;generalize hQ:(λ(e:Ending) (w':World)=>∃v',e=.returned v'/\lN w w w' v' L)=Q;have HQ:=dL hQ;clear hQ;go_enter func23,ntmps23;go_wp2_with fail;clear c0;go_loopw [13,3] (λi o wr=>∃k:Nat,k<=L.length/\i=.int .i64 (k:Int)/\dK (lN w w wr o (L.take k))) (λi _ _=>L.length - (intOf i).toNat)
 case atStart=>exact ⟨0,aS _,rfl,dL (lN.nil_ (aC _ _) (aB _))⟩
 case round=>
  obtain ⟨k,hk,rfl,MD⟩:=hrel;rcases aD k L.length with hlt|hge
  ·have hki:(k:Int) < (L.length:Int):=by omega
   obtain ⟨A2,c2,rfl⟩:=(MD.o.own_at hk).isSlice;obtain ⟨g,rfl,rA⟩:=(HR.o.below MD.o.below).2.2.2 k (by rw [eP];exact hlt);rw [tO L k hlt] at rA;obtain ⟨y,hy⟩:=dG ((AY (i6 (L.take k)) L[k]).was);obtain ⟨hd,hhd⟩:∃y,y=(AY (i6 (L.take k)) L[k]).had:=⟨_,rfl⟩;obtain ⟨mk,hmk⟩:∃y,y=(AY (i6 (L.take k)) L[k]).made:=⟨_,rfl⟩;obtain ⟨x,hx⟩:=dG (L[k]);have rA:fP wr g (k*20) ⟨x,y,hd,mk⟩:=by rw [hy,hhd,hmk,hx];exact rA
   have kr:wr.rangeAt g (k*20) [.int .i64 x.st.1,.int .i64 x.st.2,.int .i64 x.seq,.int .i64 x.kind,.int .i64 x.node.1,.int .i64 x.node.2,.bool x.dir,.int .i64 x.par.1,.int .i64 x.par.2,.string (bs x.nm),.string (bs x.mf),.int .i64 y.id.1,.int .i64 y.id.2,.bool y.dir,.int .i64 y.par.1,.int .i64 y.par.2,.string (bs y.nm),.string (bs y.mf),.bool hd,.bool mk]:=λj v hv=>rA.2 j v hv
   have KR:=dL kr;have HX:=dL hx;clear hy hhd hmk hx rA kr;go_wp2_with (first
    |(refine tP rfl 84 (.tmp 5) (.tmp 16) rfl wr.heap.size 0 _ rfl rfl (Blk.there (Blk.new wr 84 _) (aB _)) (by kernel_rfl) (λu hu=>C2 [⟨x,y,hd,mk⟩] u hu) ?_)
    |(refine wpList_load_mid rfl 84 (.tmp 15) rfl g (k*20) rfl _ _ KR.o underlying84 rfl (by kernel_rfl) ?_))
   intro w4 rE;have kr4:w4.rangeAt wr 0 [.int .i64 x.st.1,.int .i64 x.st.2,.int .i64 x.seq,.int .i64 x.kind,.int .i64 x.node.1,.int .i64 x.node.2,.bool x.dir,.int .i64 x.par.1,.int .i64 x.par.2,.string (bs x.nm),.string (bs x.mf)]:=by
    intro j v hv;refine rE.at_ j v ?_;have hj:j < 11:=by
     rcases aD j 11 with h|h
     ·exact h
     ·rw [bD h] at hv;cases hv
    have h20:∀l2:List Value,((oc x)++l2)[j]? =(oc x)[j]?:=λl2=>bY hj
    exact (h20 (nc y++[.bool hd,.bool mk])).trans hv
   have QX:=dL (MD.o.wrote rE);have KR4:=dL kr4;clear rE kr4;go_wp2_with (first
    |(refine wpList_load_mid rfl 32 (.tmp 18) rfl wr.heap.size 0 rfl _ _ KR4.o underlying32 rfl (by kernel_rfl) ?_)
    |(at_builtin;refine dW _ rfl (.tmp 17) (.tmp 20) 22 22 rfl 32 i0 (.agg #[qn,qn,qn,qn,qn,qn,false,qn,qn,yj,yj]) 11 underlying22 HI.o gx.o gJ.o rfl (by decide) w _ k (iw (L.take k)) rfl ((QX.o.own_at hk).alloc _) _ rfl 1 (iw [x]) (Src.op x (Blk.new w4 32 (oc x).toArray)) (by unfold maxLen;omega) (by rw [gT.o];omega) (aI QX.o.le (by simp)) ?_))
   intro v' w3 hown hgrow fR;have JU:lN w w w3 v' (L.take (k+1)):=by
    have h1:=lN.more (zs:=[x]) (m:=1) (QX.o.alloc _) rfl (by
     rw [aR,Nat.min_eq_left hk];exact hown) hgrow
    rw [HX.o,<-ay hlt] at h1;exact h1
   have HR2:=dL JU;clear hown hgrow fR JU;go_wp2_with fail;exact ⟨⟨k+1,by omega,by go_num,HR2⟩,by simp [intOf];omega⟩
  ·obtain rfl:k=L.length:=by omega
   have hd:¬ (L.length:Int) < (L.length:Int):=by omega
   go_wp2_with fail;rw [<-HQ.o];have h:=MD.o;rw [cD] at h;exact ⟨_,rfl,h⟩
end
end Go.Proofs.YtgdaahffmcfhpaaGreatDoor
