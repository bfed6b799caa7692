/- Lemmas on the way: VPn VV VAw La Tr. -/
import Derived.Test.YtgdaahffmcfhpaaGreatDoorT41
import Derived.Test.YtgdaahffmcfhpaaGreatDoorT42
import Derived.Test.YtgdaahffmcfhpaaGreatDoorT00
set_option maxRecDepth 100000
set_option maxHeartbeats 8000000
namespace Go.Proofs.YtgdaahffmcfhpaaGreatDoor
open Tryz
section
theorem wJ (xs:List Nd):∀(f:Nat) (out:List St) (id o:St),o∈out->o∈kT xs f out id
 |0,out,id,o,h=>h
 |f+1,out,id,o,h=>by
  unfold kT;by_cases h1:id∈out
  ·rw [if_pos h1];exact h
  ·rw [if_neg h1]
   cases ek id xs with
   |true=>exact wJ xs f _ _ o (cZ _ h)
   |false=>
    have:out≠[]:=fun e=>by rw [e] at h;cases h
    rw [if_neg (by simp),if_neg this];exact cZ _ h
theorem tL (xs:List Nd) (out:List St) (nd:St) (hn:nd∉out) (hc:∀o∈out,(eP o xs).par∈out):∀(f:Nat) (id:St),id∈out->belowP xs f id nd=false
 |0,_,_=>rfl
 |f+1,id,h=>by
  unfold belowP;have hne:¬ id=nd:=fun e=>by rw [e] at h;exact hn h
  rw [if_neg hne];cases ek id xs with
  |true=>exact tL xs out nd hn hc f _ (hc id h)
  |false=>rfl
theorem tM {xs:List Nd} {nd:St} (hnd:ek nd xs=true):∀(f f':Nat) (out:List St) (id:St),left xs out < f->left xs out < f'->nd∉out->(∀o∈out,(eP o xs).par∈out\/(eP o xs).par=id)->
  belowP xs f' id nd=decide (nd∈kT xs f out id)
 |0,f',out,id,h,_,_,_=>by omega
 |f+1,0,out,id,_,h,_,_=>by omega
 |f+1,f'+1,out,id,h1,h2,hn,hc=>by
  unfold kT;by_cases h:id∈out
  ·rw [if_pos h,decide_eq_false hn]
   exact tL xs out nd hn (fun o ho=>by rcases hc o ho with h3|h3;exact h3;rw [h3];exact h) _ _ h
  ·rw [if_neg h]
   unfold belowP;cases hh:ek id xs with
   |false=>
    have hne:¬ id=nd:=fun e=>by rw [e,hnd] at hh;cases hh
    rw [if_neg hne,if_neg (by simp),if_neg (by simp)];by_cases ho:out=[]
    ·rw [if_pos ho];rfl
    ·rw [if_neg ho]
     symm;rw [decide_eq_false_iff_not,aj,aU,not_or];exact ⟨hn,fun e=>hne e.symm⟩
   |true=>
    simp only [if_true];have hl:=zx hh h;by_cases e:id=nd
    ·subst e
     rw [if_pos rfl];symm;rw [decide_eq_true_iff];exact wJ _ _ _ _ _ (by simp)
    ·rw [if_neg e]
     exact tM hnd f f' (out++[id]) _ (by omega) (by omega) (by rw [aj,aU,not_or];exact ⟨hn,fun e2=>e e2.symm⟩) (fun o ho=>by
      rcases aj.1 ho with ho|ho
      ·rcases hc o ho with h3|h3
       ·exact .inl (cZ _ h3)
       ·exact .inl (by rw [h3];simp)
      ·rw [aU.1 ho];exact .inr rfl)
theorem B3 {xs:List Nd} {nd:St} (hnd:ek nd xs=true) (s:St):belowP xs (xs.length+1) s nd=decide (nd∈i6 xs s):=by
 have:=qY xs;exact tM hnd _ _ [] s (by omega) (by omega) (by simp) (by simp)
theorem DM {xs:List Nd} (hu:(ids xs).Nodup) {x:Nd} (hx:x∈xs):xs.find? (en x.id)=some x:=by
 induction xs with
 |nil=>cases hx
 |cons a r ih=>
  unfold ids at hu ih;rw [ai,List.nodup_cons] at hu;rcases aR.1 hx with rfl|hx
  ·simp [en]
  ·have hne:a.id≠x.id:=fun e=>hu.1 (e ▸ List.mem_map_of_mem hx)
   rw [List.find?_cons_of_neg (by simp [en,hne])];exact ih hu.2 hx
theorem Jm {xs es:List Nd} (hp:xs.Perm es) (hu:(ids es).Nodup) (s:St):xs.find? (en s)=es.find? (en s):=by
 have hu':(ids xs).Nodup:=(hp.map Nd.id).nodup_iff.2 hu;cases h:es.find? (en s) with
 |none=>
  rw [List.find?_eq_none] at h ⊢;exact fun x hx=>h x (hp.mem_iff.1 hx)
 |some y=>
  have hy:=List.mem_of_find?_eq_some h;have hs:y.id=s:=by have:=List.find?_some h;simpa [en] using this
  have:=DM hu' (hp.mem_iff.2 hy);rw [hs] at this;exact this
theorem jM {xs es:List Nd} (hp:xs.Perm es) (hu:(ids es).Nodup) (s:St):eP s xs=eP s es/\ek s xs=ek s es:=by
 unfold eP ek;rw [Jm hp hu s];exact ⟨rfl,rfl⟩
theorem DN {xs es:List Nd} (hp:xs.Perm es) (hu:(ids es).Nodup) (s:St):fI s xs=fI s es:=by
 unfold fI;rw [(jM hp hu s).1,(jM hp hu s).2]
theorem tO {xs es:List Nd} (hp:xs.Perm es) (hu:(ids es).Nodup) (nd:St):∀(f:Nat) (s:St),belowP xs f s nd=belowP es f s nd
 |0,_=>rfl
 |f+1,s=>by
  unfold belowP;rw [(jM hp hu s).1,(jM hp hu s).2,tO hp hu nd f]
theorem Fb {xs es:List Nd} (hp:xs.Perm es) (hu:(ids es).Nodup) (x:dV) (y:Nd) (b:Bool):fQ xs x y b=fQ es x y b:=by
 unfold fQ;rw [DN hp hu,hp.length_eq,tO hp hu]
theorem nS {es:List Nd} (n:Nd) (hu:(ids es).Nodup):(iY es n).Perm (n :: es.filter fun e=>!decide (e.id=n.id)):=by
 induction es with
 |nil=>exact List.Perm.refl _
 |cons a r ih=>
  unfold ids at hu ih;rw [ai,List.nodup_cons] at hu;by_cases h:a.id=n.id
  ·have hput:iY (a :: r) n=n :: r:=by
    unfold iY;simp [List.findIdx?_cons,en,h]
   have hf:(a :: r).filter (fun e=>!decide (e.id=n.id))=r:=by
    rw [List.filter_cons_of_neg (by simp [h])];rw [List.filter_eq_self];intro e he;have:e.id≠n.id:=fun e2=>hu.1 (h ▸ e2 ▸ List.mem_map_of_mem he)
    simp [this]
   rw [hput,hf]
  ·have hput:iY (a :: r) n=a :: iY r n:=by
    unfold iY;have hi:en n.id a=false:=by simp [en,h]
    rw [List.findIdx?_cons,hi];cases r.findIdx? (en n.id) with
    |none=>rfl
    |some i=>rfl
   rw [hput,List.filter_cons_of_pos (by simp [h])];exact ((ih hu.2).cons a).trans (List.Perm.swap _ _ _)
theorem NC {xs es:List Nd} (hp:xs.Perm es) (hu:(ids es).Nodup) (x:dV):(tI xs x).Perm (tI es x):=by
 have hu':(ids xs).Nodup:=(hp.map Nd.id).nodup_iff.2 hu;unfold tI Cj;simp only;rw [(jM hp hu _).1,(jM hp hu _).2,Fb hp hu];split
 ·exact (nS _ hu').trans (((hp.filter _).cons _).trans (nS _ hu).symm)
 ·exact hp
theorem Fc (xs:List Nd) (y:Nd):(fu xs y).Perm (xs++[y]):=by
 unfold fu;have h1:(xs.take (qR xs y.id)++y :: xs.drop (qR xs y.id)).Perm (y :: (xs.take (qR xs y.id)++xs.drop (qR xs y.id))):=List.perm_middle;rw [cO] at h1;exact h1.trans (List.perm_append_singleton y xs).symm
theorem R8 (xs:List Nd) (x:dV):(uR xs x).Perm (tI xs x):=by
 cases hh:ek x.node xs with
 |false=>
  have h1:=(oa hh).1;unfold uR tI Cj;rw [h1];simp only [hh];by_cases hk:x.kind=1
  ·rw [if_pos hk]
   unfold fQ;rw [if_pos hk];simp only [Bool.not_false,if_true];rw [od (n:=⟨x.node,x.dir,_,x.nm,x.mf⟩) hh];exact Fc _ _
  ·rw [if_neg hk]
   unfold fQ;rw [if_neg hk];by_cases h2:x.kind=2
   ·simp [h2]
   ·by_cases h3:x.kind=3
    ·simp [h3]
    ·by_cases h4:x.kind=4 <;> simp [h2,h3,h4]
 |true=>
  obtain ⟨i,hi,h1,h2,h3⟩:=Gj hh;have hb:=B3 hh x.par;have hput:∀n:Nd,n.id=x.node->iY xs n=xs.set i n:=fun n e=>by unfold iY;rw [e,h1]
  have hg:xs.getD i nd0=xs[i]:=by simp [hi]
  unfold uR tI Cj;rw [h1];simp only [hh,h2,hg];by_cases hk:x.kind=1
  ·rw [if_pos hk]
   unfold fQ;rw [if_pos hk];simp
  ·rw [if_neg hk]
   unfold fQ C6;rw [if_neg hk];by_cases k2:x.kind=2
   ·rw [if_pos k2,if_pos k2,hb]
    cases hc:(fI x.par xs && !decide (x.node∈i6 xs x.par)) with
    |true=>
     simp only [Bool.true_and,hc,if_true];exact List.Perm.of_eq (by symm;apply hput;exact h3)
    |false=>simp [hc]
   ·rw [if_neg k2,if_neg k2]
    by_cases k3:x.kind=3
    ·rw [if_pos k3,if_pos k3]
     cases hc:xs[i].dir with
     |true=>simp
     |false=>
      simp only [Bool.true_and,Bool.not_false,if_true,bR,if_false];exact List.Perm.of_eq (by symm;apply hput;exact h3)
    ·rw [if_neg k3,if_neg k3]
     by_cases k4:x.kind=4
     ·rw [if_pos k4,if_pos k4]
      simp only [if_true];exact List.Perm.of_eq (by symm;apply hput;exact h3)
     ·rw [if_neg k4,if_neg k4]
      simp
theorem Jn (L:List dV):∀(xs es:List Nd),xs.Perm es->(ids es).Nodup->(L.foldl uR xs).Perm (L.foldl tI es):=by
 induction L with
 |nil=>exact fun xs es h _=>h
 |cons x L ih=>
  intro xs es h hu;exact ih _ _ ((R8 xs x).trans (NC h hu x)) (zC x hu)
theorem wK (L:List dV):(fN L).Perm (iF L):=Jn L [] [] (List.Perm.refl _) List.Pairwise.nil
theorem qI {xs:List Nd} {s:St} {z:Nd} (h:z∈xs.take (qR xs s)):dX s z.id=false:=by
 obtain ⟨j,hj,rfl⟩:=bY.1 h;rw [aX] at hj;rw [List.getElem_take];unfold qR at hj;cases hf:xs.findIdx? (fun z=>dX s z.id) with
 |none=>
  have:=bP.1 hf xs[j] (ag _);exact this
 |some k=>
  rw [hf] at hj;obtain ⟨hk,_,h3⟩:=bB.1 hf;have:=h3 j (by simp at hj;omega);simpa using this
theorem ND {xs:List Nd} {s:St} {z:Nd} {l:List Nd} (h:xs.drop (qR xs s)=z :: l):dX s z.id=true:=by
 unfold qR at h;cases hf:xs.findIdx? (fun z=>dX s z.id) with
 |none=>rw [hf] at h;simp at h
 |some k=>
  rw [hf] at h;obtain ⟨hk,h2,_⟩:=bB.1 hf;simp only [Option.getD_some] at h;rw [List.drop_eq_getElem_cons hk] at h;have:=(List.cons.inj h).1;rw [<-this];exact h2
def gy (xs:List Nd):Prop:=xs.Pairwise fun a b=>dX a.id b.id=true
theorem oM {xs:List Nd} {y:Nd} (h:gy xs) (hn:∀z∈xs,z.id≠y.id):gy (fu xs y):=by
 unfold fu gy at*;have hsp:(xs.take (qR xs y.id)++xs.drop (qR xs y.id)).Pairwise fun a b=>dX a.id b.id=true:=by rw [cO];exact h
 rw [List.pairwise_append] at hsp;obtain ⟨h1,h2,h3⟩:=hsp;rw [List.pairwise_append,List.pairwise_cons];have OH:∀a∈xs.take (qR xs y.id),dX a.id y.id=true:=fun a ha=>qC (qI ha) (fun e=>hn a (cW ha) e.symm)
 have Oa:∀b∈xs.drop (qR xs y.id),dX y.id b.id=true:=fun b hb=>by
  cases hd:xs.drop (qR xs y.id) with
  |nil=>rw [hd] at hb;cases hb
  |cons z l=>
   have hz:=ND hd;rw [hd] at hb h2;rcases aR.1 hb with rfl|hb
   ·exact hz
   ·exact kz hz ((List.pairwise_cons.1 h2).1 b hb)
 refine ⟨h1,⟨Oa,h2⟩,fun a ha b hb=>?_⟩;rcases aR.1 hb with rfl|hb
 ·exact OH a ha
 ·exact h3 a ha b hb
theorem Fe {xs ys:List Nd} (h:ids xs=ids ys) (hs:gy xs):gy ys:=by
 unfold gy at*;have h1:(ids xs).Pairwise fun a b=>dX a b=true:=by unfold ids;rw [cN];exact hs
 rw [h] at h1;unfold ids at h1;rw [cN] at h1;exact h1
theorem Jo {xs:List Nd} (h:gy xs) (x:dV):gy (uR xs x):=by
 unfold uR;cases hf:xs.findIdx? (en x.node) with
 |none=>
  simp only;split
  ·refine oM h (fun z hz e=>?_)
   have:=bP.1 hf z hz;simp [en] at this;exact this e
  ·exact h
 |some i=>
  simp only;obtain ⟨hi,h1,_⟩:=bB.1 hf;have hid:xs[i].id=x.node:=of_decide_eq_true h1;have hg:xs.getD i nd0=xs[i]:=by simp [hi]
  split
  ·exact h
  ·split
   ·next y hy=>
    have:y.id=xs[i].id:=by
     rw [hg] at hy;unfold C6 at hy;split at hy
     ·split at hy
      ·cases hy;rfl
      ·cases hy
     ·split at hy
      ·split at hy
       ·cases hy
       ·cases hy;rfl
      ·split at hy
       ·cases hy;rfl
       ·cases hy
    exact Fe (uY hi this.symm).symm h
   ·exact h
theorem B4 (L:List dV):gy (fN L):=by
 have:∀(L:List dV) (xs:List Nd),gy xs->gy (L.foldl uR xs):=by
  intro L;induction L with
  |nil=>exact fun xs h=>h
  |cons x L ih=>exact fun xs h=>ih _ (Jo h x)
 exact this L [] List.Pairwise.nil
theorem zM:∀{xs ys:List Nd},gy xs->gy ys->xs.Perm ys->xs=ys
 | [],ys,_,_,hp=>hp.nil_eq
 |a :: r,[],_,_,hp=>absurd hp.length_eq (by simp)
 |a :: r,b :: t,hx,hy,hp=>by
  have h1:=List.pairwise_cons.1 hx;have h2:=List.pairwise_cons.1 hy;have hab:a=b:=by
   rcases aR.1 (hp.mem_iff.1 List.mem_cons_self) with h|h
   ·exact h
   ·rcases aR.1 (hp.mem_iff.2 List.mem_cons_self) with h'|h'
    ·exact h'.symm
    ·have e1:=h1.1 b h'
     have e2:=h2.1 a h;rw [FE e1] at e2;cases e2
  subst hab;rw [zM h1.2 h2.2 (List.Perm.cons_inv hp)]
theorem tP {L:List dV} {s:List Nd} (hp:s.Perm (iF L)) (hs:s.Pairwise fun a b=>dX b.id a.id=false):s=fN L:=by
 have hu:(ids s).Nodup:=(hp.map Nd.id).nodup_iff.2 (Cp L);refine zM ?_ (B4 L) (hp.trans (wK L).symm);unfold ids at hu;rw [List.Nodup,cN] at hu;exact (hs.and hu).imp (fun {a b} h=>qC h.1 (fun e=>h.2 e.symm))
end
section
open Go.RowKit
attribute [local go_sem] dO dL dQ dM
structure Live (w1 w:World) (p m:Nat) (v:Value) (r:Int) (L:List dV):Prop where
 mov:Tn w w1.heap.size p m v r L
 below:Below w1.heap.size w1 w
 short:sG L
theorem Live.then_ {w1 w w':World} {p m:Nat} {v:Value} {r:Int} {L:List dV} (h:Live w1 w p m v r L) (hb:Below w.heap.size w w'):Live w1 w' p m v r L:=
 ⟨h.mov.below hb,h.below.trans (hb.mono h.below.size),h.short⟩
theorem Live.size {w1 w:World} {p m:Nat} {v:Value} {r:Int} {L:List dV} (h:Live w1 w p m v r L):w1.heap.size<=w.heap.size:=h.below.size
theorem Live.v_lt {w1 w:World} {p m:Nat} {v:Value} {r:Int} {L:List dV} (h:Live w1 w p m v r L):∀g,v.ownBlock=some g->w1.heap.size<=g/\g < w.heap.size:=fun g hg=>dN.ge h.mov.s3.log g hg
theorem zN {L:List dV} {x:dV} (h:sG L) (hx:P7 x):sG (k9 L x):=by
 unfold k9;split
 ·unfold ox
  intro y hy;rcases aj.1 hy with hy|hy
  ·exact h y (cW hy)
  ·rcases aR.1 hy with rfl|hy
   ·exact hx
   ·exact h y (cL hy)
 ·exact h
def R9 (r:Int) (L:List dV) (x:dV):Int:=if iU L x=0 then (L.length:Int) - (qD L x.st:Int) else r
theorem NF (w:World):Calls prog 5 #[] w fun e w'=>e=.returned (.pointer (some ⟨w.heap.size+1,0,none⟩))/\Live w w' (w.heap.size+1) w.heap.size (.slice none 0 0) 0 []:=by
 refine (ME w).mono ?_;rintro e w' ⟨rfl,hs,hb,hz⟩;refine ⟨rfl,⟨⟨⟨hs,?_,?_,?_⟩,List.Pairwise.nil,by simp,by omega,aB _⟩,hb,fun x hx=>by cases hx⟩⟩
 ·exact dN.nil_ _ _ _
 ·intro h;cases h
 ·intro h;cases h
theorem DO (x:dV) (hx:P7 x) (p m:Nat) (v:Value) (r:Int) (L:List dV) (w1 w:World) (h:Live w1 w p m v r L):
  Calls prog 9 #[.pointer (some ⟨p,0,none⟩),ov x] w fun e w'=>∃v',e=.returned (.int .i64 (iU L x))/\Live w1 w' p m v' (R9 r L x) (k9 L x)/\fh w w' p m v/\(∀g,v'.ownBlock=some g->v.ownBlock=some g\/w.heap.size<=g):=by
 refine (zI x w1.heap.size p m v r L w h.mov h.size).mono ?_;rintro e w' ⟨v',r',rfl,hm,hk,hg,h0,h1⟩;have hr:r'=R9 r L x:=by
  unfold R9;by_cases hc:iU L x=0
  ·rw [if_pos hc];exact h0 hc
  ·rw [if_neg hc];exact h1 hc
 subst hr;refine ⟨v',rfl,⟨hm,h.below.trans ?_,zN h.short hx⟩,hk,hg⟩;exact hk.toBelow h.size h.mov.p_ge h.mov.m_ge (fun g hg=>(h.v_lt g hg).1)
theorem tQ {L:List dV} (h:sG L):Short (fN L):=by
 have:∀(L:List dV) (xs:List Nd),sG L->Short xs->Short (L.foldl uR xs):=by
  intro L;induction L with
  |nil=>exact fun xs _ h=>h
  |cons x L ih=>exact fun xs hl hs=>ih _ (fun y hy=>hl y (List.mem_cons_of_mem _ hy)) (JI hs (hl x List.mem_cons_self))
 exact this L [] h (fun x hx=>by cases hx)
theorem Ff {p m:Nat} {v:Value} {r:Int} {L:List dV} {w1 w:World} (h:Live w1 w p m v r L):Calls prog 10 #[.pointer (some ⟨p,0,none⟩)] w (lI w (fN L)):=by
 have hl:=h.mov.len;have hf:=oe L;refine (DL p m v r (iF L) w h.mov.s3.stt (by omega)).mono ?_;rintro e w' ⟨v2,s,rfl,hp,hs,ho,hb⟩;obtain rfl:=tP hp hs;exact lI.own ho (tQ h.short) hb
def rC (x:dV):Bool:=!decide (((x.nm.length:Nat):Int) > 200) && !decide (((x.mf.length:Nat):Int) > 600)
def DP (xs:List dV):Bool:=decide (xs.length<=60) && xs.all rC
theorem RA {xs:List dV} (h:DP xs=true):xs.length<=60:=by
 unfold DP at h;rw [bL] at h;exact of_decide_eq_true h.1
theorem H8 (A:Option Addr) (n c:Nat) (xs:List dV) (w:World) (hx:Ia w A n c xs):
  Calls prog 6 #[.slice A n c] w (dJ w (.bool (DP xs))):=by
 have hn:=hx.len;have qJ:=hx.max;have hle:=hx.le;by_cases h60:(n:Int) > 60
 ·have hd:decide ((n:Int) > 60)=true:=decide_eq_true h60
  have hB:DP xs=false:=by unfold DP;rw [decide_eq_false (by omega)];rfl
  rw [hB];clear h60 hx hB;go_enter func6,ntmps6;go_wp2_with fail;go_ret;exact ⟨rfl,aC _ _⟩
 have hd:decide ((n:Int) > 60)=false:=decide_eq_false h60;have hB:DP xs=xs.all rC:=by unfold DP;rw [decide_eq_true (by omega)];simp
 rw [hB];have HX:=dH hx;clear hx h60 hB;go_enter func6,ntmps6;go_wp2_with fail;go_loopw [3] (fun i wr=>∃k:Nat,k<=n/\i=.int .i64 k/\Below w.heap.size w wr/\dG (∀j (hj:j < xs.length),j < k->rC xs[j]=true)) (fun i _=>n - (intOf i).toNat)
 case atStart=>exact ⟨0,by omega,rfl,aC _ _,dH (fun j hj h=>by omega)⟩
 case round=>
  obtain ⟨k,hk,rfl,hb,hall⟩:=hrel;rcases aG k n with hlt|hge
  ·have hki:(k:Int) < (n:Int):=by omega
   have hkl:k < xs.length:=by omega
   obtain ⟨b,off,rfl,jY,c0,c1,c2,c3,c4,c5,c6,c7,c8,c9,jt,m1,m2⟩:=Ia.at_ (HX.o.below hb) hkl;have hnext:rC xs[k]=true->dG (∀j (hj:j < xs.length),j < k+1->rC xs[j]=true):=fun h=>dH (fun j hj h1=>by
    rcases aG j k with h2|h2
    ·exact hall.o j hj h2
    ·obtain rfl:j=k:=by omega
     exact h)
   have hstop:rC xs[k]=false->xs.all rC=false:=fun h=>by
    rw [List.all_eq_false];exact ⟨xs[k],ag hkl,by rw [h];decide⟩
   have K6:=dH hnext;have X2:=dH hstop;clear hnext hstop;have hx1:∃x,x=xs[k]:=⟨_,rfl⟩;obtain ⟨x,hx1⟩:=hx1;rw [<-hx1] at c0 c1 c2 c3 c4 c5 c6 c7 c8 c9 jt m1 m2 K6 X2;have Vt:rC x=(!decide (((x.nm.length:Nat):Int) > 200) && !decide (((x.mf.length:Nat):Int) > 600)):=rfl;clear hx1;have HB:=dH hb;clear hb;cases e1:decide (((x.nm.length:Nat):Int) > 200) <;> cases e2:decide (((x.mf.length:Nat):Int) > 600);all_goals (rw [e1,e2] at Vt;have rK:=dH Vt;clear Vt)
   all_goals go_wp2_with fail
   all_goals first
    |exact ⟨⟨k+1,by omega,by go_num,HB.o,K6.o rK.o⟩,by simp [intOf];omega⟩
    |(go_ret;exact ⟨by rw [X2.o rK.o];rfl,HB.o⟩)
  ·have hkn:¬ (k:Int) < (n:Int):=by omega
   have eC:dG (xs.all rC=true):=dH (by
    rw [List.all_eq_true];intro y hy;obtain ⟨j,hj,rfl⟩:=bY.1 hy;exact hall.o j hj (by omega))
   have HB:=dH hb;clear hb hall;go_wp2_with fail;go_ret;exact ⟨by rw [eC.o];rfl,HB.o⟩
end
namespace Tr
open Go.RowKit
def ownB (l:List dV):Bool:=l.all fun x=>rightS x.node
theorem NG (xs:List Nd) (x:dV) (y:Nd):(fe xs x y).1.id=y.id:=by
 unfold fe;split
 ·rfl
 ·split
  ·rfl
  ·split <;> rfl
def wL (xs:List Nd):Prop:=(xs.map Nd.id).Nodup
theorem wL.find {xs:List Nd} (h:wL xs) {z:Nd} (hz:z∈xs):eP z.id xs=z/\ek z.id xs=true:=by
 obtain ⟨j,hj,rfl⟩:=bY.1 hz;have h1:fH (en xs[j].id) xs=j:=rX hj (by simp [en]) (fun i hi hlt=>by
  unfold en;refine decide_eq_false (fun e=>?_);have:=dA.1 h i j (by simpa using hi) (by simpa using hj) hlt;rw [List.getElem_map,List.getElem_map] at this;exact this e)
 exact GX hj h1
theorem wM (xs:List Nd) (k:Nat) (z:Nd) (hk:k < xs.length) (hz:z.id=xs[k].id):(xs.set k z).map Nd.id=xs.map Nd.id:=by
 apply List.ext_getElem?;intro i;rw [cR,cR,List.getElem?_set];by_cases h:k=i
 ·subst h
  simp [hk,hz]
 ·simp [h]
theorem doN_cases (xs:List Nd) (x:dV):
  (uR xs x=xs)\/(∃y,y.id=x.node/\x.kind=1/\x.node∉xs.map Nd.id/\y= ⟨x.node,x.dir,if fI x.par xs then x.par else (0,1),x.nm,x.mf⟩/\uR xs x=fu xs y)\/
  (∃k,∃hk:k < xs.length,xs[k].id=x.node/\x.kind≠1/\(fe xs x xs[k]).2=true/\uR xs x=xs.set k (fe xs x xs[k]).1):=by
 rcases gq (en x.node) xs with ⟨k,hk,jQ,hp⟩| ⟨jQ,hall⟩
 ·rw [F9 hk jQ]
  by_cases h1:x.kind=1
  ·exact .inl (by rw [if_pos h1])
  ·rw [if_neg h1]
   by_cases h2:(fe xs x xs[k]).2=true
   ·exact .inr (.inr ⟨k,hk,of_decide_eq_true hp,h1,h2,by rw [if_pos h2]⟩)
   ·exact .inl (by rw [if_neg h2])
 ·rw [FA jQ]
  by_cases h1:x.kind=1
  ·refine .inr (.inl ⟨_,rfl,h1,fun hm=>?_,rfl,by rw [if_pos h1]⟩)
   obtain ⟨z,hz,e⟩:=aV.1 hm;have:=hall z hz;unfold en at this;rw [decide_eq_true e] at this;cases this
  ·exact .inl (by rw [if_neg h1])
theorem Jp (xs:List Nd) (x:dV) (y:Nd):(fe xs x y).1.dir=y.dir:=by
 unfold fe;split
 ·rfl
 ·split
  ·rfl
  ·split <;> rfl
def Rt (s:St):Prop:=s=(0,0)\/s=(0,1)
def Reach (xs:List Nd):Nat->St->Prop
 |0,s=>Rt s
 |k+1,s=>ek s xs=true/\Reach xs k (eP s xs).par
def mM (xs:List Nd):Nat->St->List St
 |0,s=>[s]
 |k+1,s=>s :: mM xs k (eP s xs).par
structure Tree (xs:List Nd):Prop where
 sorted:xs.Pairwise fun a b=>dX a.id b.id=true
 own:∀x∈xs,rightS x.id=true
 par:∀x∈xs,Rt x.par\/(ek x.par xs=true/\(eP x.par xs).dir=true)
 reach:∀x∈xs,∃k,Reach xs k x.id
theorem zO {a b:St}:dX a b=true↔a.1 < b.1\/(a.1=b.1/\a.2 < b.2):=by
 unfold dX;simp
theorem zP (a:St):dX a a=false:=by
 unfold dX;simp
theorem DQ {a b c:St} (h:dX a b=true) (k:dX b c=true):dX a c=true:=by
 rw [zO] at*;omega
theorem DR {a b:St} (h:dX a b=false) (hne:b≠a):dX b a=true:=by
 have h1:¬ (dX a b=true):=by rw [h];decide
 rw [zO] at*;have:¬ (b.1=a.1/\b.2=a.2):=fun ⟨e1,e2⟩=>hne (Prod.ext e1 e2)
 omega
theorem Tree.uniq {xs:List Nd} (h:Tree xs):wL xs:=by
 unfold wL;rw [List.Nodup,cN];exact h.sorted.imp fun {a b} hab e=>by rw [e,zP] at hab;cases hab
theorem Tree.no_rt {xs:List Nd} (h:Tree xs) {s:St} (hs:Rt s):ek s xs=false:=by
 cases hh:ek s xs with
 |false=>rfl
 |true=>
  obtain ⟨h1,h2⟩:=uQ hh;have:=h.own _ h1;rw [h2] at this;unfold rightS at this;rcases hs with rfl|rfl <;> simp at this
theorem Reach.uniq {xs:List Nd} (h:Tree xs):∀{j k:Nat} {s:St},Reach xs j s->Reach xs k s->j=k
 |0,0,_,_,_=>rfl
 |0,k+1,s,h0,h1=>by have:=h.no_rt h0;rw [h1.1] at this;cases this
 |j+1,0,s,h0,h1=>by have:=h.no_rt h1;rw [h0.1] at this;cases this
 |j+1,k+1,s,h0,h1=>by rw [Reach.uniq h h0.2 h1.2]
theorem zQ (xs:List Nd):∀(k:Nat) (s:St),(mM xs k s).length=k+1
 |0,_=>rfl
 |k+1,s=>by rw [mM,aQ,zQ xs k]
theorem wN (xs:List Nd) (k:Nat) (s:St):(mM xs k s)[0]? =some s:=by
 cases k <;> rfl
theorem wO {xs:List Nd}:∀{k:Nat} {s:St},Reach xs k s->∃r,Rt r/\(mM xs k s)[k]? =some r
 |0,s,h=> ⟨s,h,rfl⟩
 |k+1,s,h=>by
  obtain ⟨r,h1,h2⟩:=wO h.2;exact ⟨r,h1,by rw [mM,aW];exact h2⟩
theorem wP {xs:List Nd} (h:Tree xs):∀(k:Nat) (f:Nat) (out:List St) (s:St),Reach xs k s->(∀o∈out,∃j,k < j/\Reach xs j o)->left xs out < f->(0 < k\/out≠[])->kT xs f out s=out++mM xs k s
 |k,0,out,s,_,_,hf,_=>by omega
 |0,f+1,out,s,hr,ho,hf,hne=>by
  have hn:s∉out:=fun hm=>by
   obtain ⟨j,hj,hrj⟩:=ho s hm;have:=Reach.uniq h hrj hr;omega
  rw [kT,if_neg hn,h.no_rt hr];rcases hne with h0|h0
  ·omega
  ·simp [h0,mM]
 |k+1,f+1,out,s,hr,ho,hf,_=>by
  have hn:s∉out:=fun hm=>by
   obtain ⟨j,hj,hrj⟩:=ho s hm;have:=Reach.uniq h hrj hr;omega
  rw [kT,if_neg hn,hr.1,if_pos rfl];have:=zx hr.1 hn;rw [wP h k f (out++[s]) _ hr.2 (fun o hm=>by
   rcases aj.1 hm with hm|hm
   ·obtain ⟨j,hj,hrj⟩:=ho o hm
    exact ⟨j,by omega,hrj⟩
   ·rw [aU.1 hm]
    exact ⟨k+1,by omega,hr⟩) (by omega) (.inr (by simp))]
  rw [mM,bK];rfl
theorem tT {xs:List Nd} (h:Tree xs) {k:Nat} {s:St} (hr:Reach xs k s) (hk:0 < k):i6 xs s=mM xs k s:=by
 unfold i6;rw [wP h k _ [] s hr (fun o hm=>by cases hm) (Nat.lt_succ_of_le (qY xs)) (.inl hk)];rfl
theorem Tree.chain {xs:List Nd} (h:Tree xs) {x:Nd} (hx:x∈xs):∃n r,(i6 xs x.id).length=n+2/\(i6 xs x.id)[0]? =some x.id/\(i6 xs x.id)[1]? =some x.par/\(i6 xs x.id)[n+1]? =some r/\Rt r:=by
 obtain ⟨hf,hh⟩:=h.uniq.find hx;obtain ⟨k,hr⟩:=h.reach x hx;cases k with
 |zero=>have:=h.no_rt hr;rw [hh] at this;cases this
 |succ n=>
  rw [tT h hr (Nat.succ_pos n)];obtain ⟨r,h1,h2⟩:=wO hr;refine ⟨n,r,zQ _ _ _,wN _ _ _,?_,h2,h1⟩;rw [mM,aW,wN,hf]
theorem find?_grow {p:Nd->Bool} {xs:List Nd} {y:Nd} (hy:p y=false):(fu xs y).find? p=xs.find? p:=by
 have h:(List.take (qR xs y.id) xs++List.drop (qR xs y.id) xs).find? p=xs.find? p:=by rw [cO]
 rw [<-h];unfold fu;simp only [List.find?_append,List.find?_cons,hy]
theorem find?_set {p:Nd->Bool}:∀{xs:List Nd} {k:Nat} {z:Nd} (hk:k < xs.length),p xs[k]=false->p z=false->(xs.set k z).find? p=xs.find? p
 | [],k,_,hk,_,_=>by simp at hk
 |x :: xs,0,z,_,h1,h2=>by
  have h1:p x=false:=h1;simp [h1,h2]
 |x :: xs,k+1,z,hk,h1,h2=>by
  have:=find?_set (xs:=xs) (k:=k) (z:=z) (by simpa using hk) (by simpa using h1) h2;simp [List.find?_cons,this]
theorem zR {xs:List Nd} {y:Nd} {s:St} (h:s≠y.id):eP s (fu xs y)=eP s xs/\ek s (fu xs y)=ek s xs:=by
 unfold eP ek;rw [find?_grow (by unfold en;exact decide_eq_false (fun e=>h e.symm))];exact ⟨rfl,rfl⟩
theorem rD {xs:List Nd} {k:Nat} {z:Nd} (hk:k < xs.length) (hz:z.id=xs[k].id) {s:St} (h:s≠z.id):eP s (xs.set k z)=eP s xs/\ek s (xs.set k z)=ek s xs:=by
 unfold eP ek;rw [find?_set hk (by unfold en;exact decide_eq_false (fun e=>h (by rw [hz,e]))) (by unfold en;exact decide_eq_false (fun e=>h e.symm))];exact ⟨rfl,rfl⟩
theorem Reach.grow {xs:List Nd} {y:Nd} (hn:ek y.id xs=false):∀{k:Nat} {s:St},Reach xs k s->Reach (fu xs y) k s
 |0,_,h=>h
 |k+1,s,h=>by
  have hne:s≠y.id:=fun e=>by have:=h.1;rw [e,hn] at this;cases this
  obtain ⟨h1,h2⟩:=zR (xs:=xs) hne;exact ⟨by rw [h2];exact h.1,by rw [h1];exact Reach.grow hn h.2⟩
theorem qI {xs:List Nd} {s:St} {z:Nd} (h:z∈xs.take (qR xs s)):dX s z.id=false:=by
 obtain ⟨j,hj,rfl⟩:=bY.1 h;rw [aX] at hj;rw [List.getElem_take];unfold qR at hj;cases hf:xs.findIdx? (fun z=>dX s z.id) with
 |none=>
  have:=bP.1 hf xs[j] (ag _);exact this
 |some k=>
  rw [hf] at hj;obtain ⟨hk,_,h3⟩:=bB.1 hf;have:=h3 j (by simp at hj;omega);simpa using this
theorem UC {xs:List Nd} {s:St} {z:Nd} {l:List Nd} (h:xs.drop (qR xs s)=z :: l):dX s z.id=true:=by
 unfold qR at h;cases hf:xs.findIdx? (fun z=>dX s z.id) with
 |none=>rw [hf] at h;simp at h
 |some k=>
  rw [hf] at h;obtain ⟨hk,h2,_⟩:=bB.1 hf;simp only [Option.getD_some] at h;rw [List.drop_eq_getElem_cons hk] at h;have:=(List.cons.inj h).1;rw [<-this];exact h2
theorem oM {xs:List Nd} {y:Nd} (h:xs.Pairwise fun a b=>dX a.id b.id=true) (hn:∀z∈xs,z.id≠y.id):(fu xs y).Pairwise fun a b=>dX a.id b.id=true:=by
 unfold fu;have hsp:(xs.take (qR xs y.id)++xs.drop (qR xs y.id)).Pairwise fun a b=>dX a.id b.id=true:=by rw [cO];exact h
 rw [List.pairwise_append] at hsp;obtain ⟨h1,h2,h3⟩:=hsp;rw [List.pairwise_append,List.pairwise_cons];have OH:∀a∈xs.take (qR xs y.id),dX a.id y.id=true:=fun a ha=>DR (qI ha) (hn a (cW ha))
 have Oa:∀b∈xs.drop (qR xs y.id),dX y.id b.id=true:=fun b hb=>by
  cases hd:xs.drop (qR xs y.id) with
  |nil=>rw [hd] at hb;cases hb
  |cons z l=>
   have hz:=UC hd;rw [hd] at hb h2;rcases aR.1 hb with rfl|hb
   ·exact hz
   ·exact DQ hz ((List.pairwise_cons.1 h2).1 b hb)
 refine ⟨h1,⟨Oa,h2⟩,fun a ha b hb=>?_⟩;rcases aR.1 hb with rfl|hb
 ·exact OH a ha
 ·exact h3 a ha b hb
theorem mem_grow_cases {xs:List Nd} {y z:Nd} (h:z∈fu xs y):z=y\/z∈xs:=by
 unfold fu at h;rcases aj.1 h with h|h
 ·exact .inr (cW h)
 ·rcases aR.1 h with h|h
  ·exact .inl h
  ·exact .inr (cL h)
theorem Jq {xs:List Nd} {s:St} (h:s∉xs.map Nd.id):ek s xs=false:=by
 cases hh:ek s xs with
 |false=>rfl
 |true=>
  obtain ⟨h1,h2⟩:=uQ hh;exact absurd (aV.2 ⟨_,h1,h2⟩) h
theorem tU {xs:List Nd} {s:St} (h:fI s xs=true):s=(0,0)\/(ek s xs=true/\(eP s xs).dir=true):=by
 unfold fI at h;simp at h;exact h
theorem Tree.reachOf {xs:List Nd} (h:Tree xs) {s:St} (hs:Rt s\/ek s xs=true):∃k,Reach xs k s:=by
 rcases hs with hs|hs
 ·exact ⟨0,hs⟩
 ·obtain ⟨h1,h2⟩:=uQ hs
  obtain ⟨k,hk⟩:=h.reach _ h1;exact ⟨k,h2 ▸ hk⟩
theorem Tree.grow {xs:List Nd} (h:Tree xs) {y:Nd} (hy:rightS y.id=true) (hn:y.id∉xs.map Nd.id) (hp:Rt y.par\/(ek y.par xs=true/\(eP y.par xs).dir=true)):Tree (fu xs y):=by
 have hno:=Jq hn;have hid:∀z∈xs,z.id≠y.id:=fun z hz e=>hn (aV.2 ⟨z,hz,e⟩)
 have up:∀{s:St},Rt s\/(ek s xs=true/\(eP s xs).dir=true)->Rt s\/(ek s (fu xs y)=true/\(eP s (fu xs y)).dir=true):=fun {s} hs=>by
  rcases hs with hs| ⟨h1,h2⟩
  ·exact .inl hs
  ·have hne:s≠y.id:=fun e=>by rw [e,hno] at h1;cases h1
   obtain ⟨e1,e2⟩:=zR (xs:=xs) hne;exact .inr ⟨by rw [e2];exact h1,by rw [e1];exact h2⟩
 have hs:=oM h.sorted hid;have huq:wL (fu xs y):=by
  unfold wL;rw [List.Nodup,cN];exact hs.imp fun {a b} hab e=>by rw [e,zP] at hab;cases hab
 have abS:y∈fu xs y:=by unfold fu;simp
 refine ⟨hs,fun z hz=>?_,fun z hz=>?_,fun z hz=>?_⟩
 ·rcases mem_grow_cases hz with rfl|hz
  ·exact hy
  ·exact h.own z hz
 ·rcases mem_grow_cases hz with rfl|hz
  ·exact up hp
  ·exact up (h.par z hz)
 ·rcases mem_grow_cases hz with rfl|hz
  ·obtain ⟨f1,f2⟩:=huq.find abS
   obtain ⟨k,hk⟩:=h.reachOf (hp.imp id And.left);exact ⟨k+1,f2,by rw [f1];exact Reach.grow hno hk⟩
  ·obtain ⟨k,hk⟩:=h.reach z hz
   exact ⟨k,Reach.grow hno hk⟩
theorem Tree.turn {xs:List Nd} (h:Tree xs) {k:Nat} (hk:k < xs.length) {z:Nd} (hz:z.id=xs[k].id) (hd:z.dir=xs[k].dir)
  (hp:Rt z.par\/(ek z.par xs=true/\(eP z.par xs).dir=true))
  (hr:∃j,Reach (xs.set k z) j z.par):Tree (xs.set k z):=by
 have hmem:xs[k]∈xs:=ag hk;have abT:z∈xs.set k z:=List.mem_set hk _;have aab:(xs.set k z).map Nd.id=xs.map Nd.id:=wM xs k z hk hz;have hs:(xs.set k z).Pairwise fun a b=>dX a.id b.id=true:=by
  have h1:((xs.map Nd.id).Pairwise fun a b=>dX a b=true):=by rw [cN];exact h.sorted
  rw [<-aab,cN] at h1;exact h1
 have huq:wL (xs.set k z):=by unfold wL;rw [aab];exact h.uniq
 obtain ⟨fz1,fz2⟩:=huq.find abT;obtain ⟨fx1,fx2⟩:=h.uniq.find hmem;have hmc:∀a∈xs.set k z,a=z\/a∈xs:=fun a ha=>by
  rcases List.mem_or_eq_of_mem_set ha with h1|h1
  ·exact .inr h1
  ·exact .inl h1
 have up:∀{s:St},Rt s\/(ek s xs=true/\(eP s xs).dir=true)->Rt s\/(ek s (xs.set k z)=true/\(eP s (xs.set k z)).dir=true):=fun {s} hs=>by
  rcases hs with hs| ⟨h1,h2⟩
  ·exact .inl hs
  ·by_cases e:s=z.id
   ·subst e
    refine .inr ⟨fz2,?_⟩;rw [fz1,hd];rw [hz,fx1] at h2;exact h2
   ·obtain ⟨e1,e2⟩:=rD hk hz e
    exact .inr ⟨by rw [e2];exact h1,by rw [e1];exact h2⟩
 have lift:∀(j:Nat) (s:St),Reach xs j s->∃j',Reach (xs.set k z) j' s:=by
  intro j;induction j with
  |zero=>exact fun s hs=> ⟨0,hs⟩
  |succ j ih=>
   intro s hs;by_cases e:s=z.id
   ·subst e
    obtain ⟨j',hj'⟩:=hr;exact ⟨j'+1,fz2,by rw [fz1];exact hj'⟩
   ·obtain ⟨e1,e2⟩:=rD hk hz e
    obtain ⟨j',hj'⟩:=ih _ hs.2;exact ⟨j'+1,by rw [e2];exact hs.1,by rw [e1];exact hj'⟩
 refine ⟨hs,fun a ha=>?_,fun a ha=>?_,fun a ha=>?_⟩
 ·rcases hmc a ha with rfl|ha
  ·rw [hz];exact h.own _ hmem
  ·exact h.own a ha
 ·rcases hmc a ha with rfl|ha
  ·exact up hp
  ·exact up (h.par a ha)
 ·rcases hmc a ha with rfl|ha
  ·obtain ⟨j,hj⟩:=h.reach _ hmem
   rw [hz];exact lift j _ hj
  ·obtain ⟨j,hj⟩:=h.reach a ha
   exact lift j _ hj
theorem Reach.past {xs:List Nd} {k:Nat} (hk:k < xs.length) {z:Nd} (hz:z.id=xs[k].id):∀{j:Nat} {s:St},Reach xs j s->z.id∉mM xs j s->Reach (xs.set k z) j s
 |0,_,h,_=>h
 |j+1,s,h,hn=>by
  rw [mM,aR,not_or] at hn;obtain ⟨e1,e2⟩:=rD hk hz (fun e=>hn.1 e.symm);exact ⟨by rw [e2];exact h.1,by rw [e1];exact Reach.past hk hz h.2 hn.2⟩
theorem Reach.keep {xs:List Nd} (hu:wL xs) {k:Nat} (hk:k < xs.length) {z:Nd} (hz:z.id=xs[k].id) (hp:z.par=xs[k].par):∀{j:Nat} {s:St},Reach xs j s->Reach (xs.set k z) j s
 |0,_,h=>h
 |j+1,s,h=>by
  by_cases e:s=z.id
  ·subst e
   have huq:wL (xs.set k z):=by unfold wL;rw [wM xs k z hk hz];exact hu
   obtain ⟨f1,f2⟩:=huq.find (List.mem_set hk z);obtain ⟨g1,_⟩:=hu.find (ag hk);refine ⟨f2,?_⟩;have:=Reach.keep hu hk hz hp h.2;rw [hz,g1,<-hp] at this;rw [f1];exact this
  ·obtain ⟨e1,e2⟩:=rD hk hz e
   exact ⟨by rw [e2];exact h.1,by rw [e1];exact Reach.keep hu hk hz hp h.2⟩
theorem Tree.do_ {xs:List Nd} (h:Tree xs) {x:dV} (hx:rightS x.node=true):Tree (uR xs x):=by
 rcases doN_cases xs x with e| ⟨y,hy,_,hn,hyd,e⟩| ⟨k,hk,hid,hk1,ht,e⟩
 ·rw [e];exact h
 ·rw [e]
  refine h.grow (by rw [hy];exact hx) (by rw [hy];exact hn) ?_;rw [hyd];show Rt (if fI x.par xs then x.par else (0,1))\/_;cases htk:fI x.par xs with
  |false=>exact .inl (.inr rfl)
  |true=>
   rcases tU htk with h0|h0
   ·exact .inl (.inl (by simpa using h0))
   ·exact .inr (by simpa using h0)
 ·rw [e]
  have hmem:xs[k]∈xs:=ag hk;have hpk:=h.par _ hmem;have BM:=NG xs x xs[k];have hzd:=Jp xs x xs[k];by_cases h2:x.kind=2
  ·have hz:(fe xs x xs[k])=({ xs[k] with par:=x.par,nm:=x.nm },fI x.par xs && !decide (x.node∈i6 xs x.par)):=by unfold fe;rw [if_pos h2]
   rw [hz] at ht BM hzd ⊢;simp only [bL,Bool.not_eq_true',decide_eq_false_iff_not] at ht;obtain ⟨ht1,ht2⟩:=ht;have hp:Rt x.par\/(ek x.par xs=true/\(eP x.par xs).dir=true):=by
    rcases tU ht1 with h0|h0
    ·exact .inl (.inl h0)
    ·exact .inr h0
   refine h.turn hk BM hzd hp ?_;obtain ⟨j,hj⟩:=h.reachOf (hp.imp id And.left);cases j with
   |zero=>exact ⟨0,hj⟩
   |succ j=>
    rw [tT h hj (Nat.succ_pos j)] at ht2;refine ⟨j+1,Reach.past hk BM hj ?_⟩;rw [BM,hid];exact ht2
  ·by_cases h3:x.kind=3
   ·have hz:(fe xs x xs[k]).1={ xs[k] with mf:=x.mf }:=by unfold fe;rw [if_neg h2,if_pos h3]
    rw [hz] at BM hzd ⊢;refine h.turn hk BM hzd hpk ?_;obtain ⟨j,hj⟩:=h.reachOf (hpk.imp id And.left);exact ⟨j,Reach.keep h.uniq hk BM rfl hj⟩
   ·by_cases h4:x.kind=4
    ·have hz:(fe xs x xs[k]).1={ xs[k] with par:=(0,1) }:=by unfold fe;rw [if_neg h2,if_neg h3,if_pos h4]
     rw [hz] at BM hzd ⊢;exact h.turn hk BM hzd (.inl (.inr rfl)) ⟨0,.inr rfl⟩
    ·have:(fe xs x xs[k]).2=false:=by unfold fe;rw [if_neg h2,if_neg h3,if_neg h4]
     rw [this] at ht;cases ht
theorem Tree.nil_:Tree []:=⟨List.Pairwise.nil,(fun _ h=>absurd h bJ),(fun _ h=>absurd h bJ),(fun _ h=>absurd h bJ)⟩
theorem Tree.fold_ (l:List dV) (h:ownB l=true):Tree (fN l):=by
 have:∀(l:List dV) (xs:List Nd),Tree xs->(∀x∈l,rightS x.node=true)->Tree (l.foldl uR xs):=by
  intro l;induction l with
  |nil=>intro xs h _;exact h
  |cons x l ih=>intro xs h hl;exact ih _ (h.do_ (hl x List.mem_cons_self)) (fun y hy=>hl y (List.mem_cons_of_mem _ hy))
 exact this l [] Tree.nil_ (by unfold ownB at h;simpa using h)
end Tr
end Go.Proofs.YtgdaahffmcfhpaaGreatDoor
