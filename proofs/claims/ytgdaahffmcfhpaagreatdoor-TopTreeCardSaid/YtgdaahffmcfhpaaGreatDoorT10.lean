/- Lemmas on the way: StrL PCut. -/
import Derived.Test.YtgdaahffmcfhpaaGreatDoorT07
import Derived.Test.YtgdaahffmcfhpaaGreatDoorT09
import Derived.Test.YtgdaahffmcfhpaaGreatDoorT00
set_option maxRecDepth 100000
set_option maxHeartbeats 8000000
namespace Go.Proofs.YtgdaahffmcfhpaaGreatDoor
open Tryz
section
open Go.RowKit
def strs (l:List (List UInt8)):List Value:=l.map fun s=>Value.string (bs s)
theorem jS (a b:List (List UInt8)):strs (a++b)=strs a++strs b:=by simp [strs]
def StC (cs:List Value) (s:List UInt8):Prop:=cs=[.string (bs s)]/\s.length<=9223372036854775807
abbrev Strs (w:World) (A:Option Addr) (n c:Nat) (xs:List (List UInt8)):Prop:=Sl w 1 StC A n c xs
theorem Strs.at_ {w:World} {A:Option Addr} {n c k:Nat} {xs:List (List UInt8)} (h:Strs w A n c xs) (hk:k < xs.length):
  ∃b off,A=some ⟨b,off,none⟩/\b < w.heap.size/\w.cell? ⟨b,off+k,none⟩=some (.string (bs xs[k]))/\xs[k].length<=9223372036854775807:=by
 obtain ⟨b,off,cs,e,hlt,hl,⟨rfl,hm⟩,hc⟩:=h.4 k hk;refine ⟨b,off,e,hlt,?_,hm⟩;have:=hc 0 _ rfl;simpa using this
abbrev fZ (w:World) (B:Nat) (v:Value) (xs:List (List UInt8)):Prop:=dN w B 1 v xs.length (strs xs)
def me (xs:List (List UInt8)):Prop:=∀x∈xs,x.length<=9223372036854775807
theorem fZ.strs {w:World} {B:Nat} {v:Value} {xs:List (List UInt8)} (h:fZ w B v xs) (hs:me xs):∃A c,v=.slice A xs.length c/\Strs w A xs.length c xs:=by
 rcases h.2 with ⟨rfl,h0⟩| ⟨g,cap,rfl,hb,hlt,hnc,hcm,_,_,hx⟩
 ·obtain rfl:xs=[]:=bH h0
  exact ⟨none,0,rfl,Sl.nil_⟩
 ·refine ⟨_,cap,rfl,rfl,hnc,by unfold maxLen at hcm;omega,fun i hi=> ⟨g,0,[.string (bs xs[i])],rfl,hlt,rfl,⟨rfl,hs _ (ag hi)⟩,fun j u hu=>?_⟩⟩
  match j,hu with
  |0,hu=>
   cases hu;have:=hx i (.string (bs xs[i])) (by simp [Go.Proofs.YtgdaahffmcfhpaaGreatDoor.strs,hi]);simpa using this
theorem fZ.snoc {w:World} {B:Nat} {v:Value} {xs:List (List UInt8)} {x:List UInt8} (h:dN w B 1 v (xs.length+1) (Go.Proofs.YtgdaahffmcfhpaaGreatDoor.strs xs++[.string (bs x)])):fZ w B v (xs++[x]):=by
 unfold fZ;rw [jS,aO];exact h
end
namespace Pt
open Go.RowKit Go.Shelf
attribute [local go_sem] Oper.semAt_some
def piece (d:List UInt8) (k:Nat):List UInt8:=(d.drop (256*k)).take 256
def cutL (d:List UInt8):List (List UInt8):=(List.range (pieces d.length)).map (piece d)
theorem CA:(prog.info? 9).map (fun i=>(i.zero,i.size,i.bytes))=some (some (.string ⟨#[]⟩),1,16):=by kernel_rfl
theorem Ih (w:World) (l:List UInt8) (hl:l.length<=maxLen):∃cap w',(convert 9 259 (.string (bs l))).run prog w=.ok (.slice (some ⟨w.heap.size,0,none⟩) l.length cap) w'/\
  dN w' w.heap.size 1 (.slice (some ⟨w.heap.size,0,none⟩) l.length cap) l.length (bv l)/\Below w.heap.size w w'/\w'.heap.size=w.heap.size+1:=by
 have hr:=run_bytes_of_string (P:=prog) w 9 259 5 (bs l) underlying9 underlying259 underlying5;rw [dO] at hr;have hge:=grownCap_ge w l.length 0 5;have hle:=grownCap_le_maxLen w l.length 0 5 hl;exact ⟨_,_,hr,oQ w.drew 5 l _ hge hle,((aC _ w).drew).alloc (aB _) _,by simp [World.alloc]⟩
theorem Ii {W:World} {g:Nat} {d:List UInt8} (hc:∀j u,(bv d)[j]? =some u->W.cell? ⟨g,j,none⟩=some u) (k:Nat):
  (convert 259 9 (SJ g d.length k)).run prog W=.ok (.string (bs (piece d k))) W:=by
 unfold SJ;by_cases h:256*k < d.length
 ·rw [if_pos h]
  have hl:(piece d k).length=min 256 (d.length - 256*k):=by simp [piece]
  have:=run_convert_bytes_back (P:=prog) W 259 9 5 ⟨g,256*k,none⟩ (min 256 (d.length - 256*k)) (piece d k) underlying259 underlying5 underlying9 (fun j hj=>by
   have e:(Addr.mk g (256*k) none).add j= ⟨g,256*k+j,none⟩:=by unfold Addr.add;split <;> simp_all
   rw [e];refine hc _ _ ?_;have hj2:256*k+j < d.length:=by rw [hl] at hj;omega
   simp [bv,piece,bf hj2])
  rw [hl] at this;exact this
 ·rw [if_neg h]
  have hp:piece d k=[]:=by unfold piece;rw [List.drop_of_length_le (by omega)];rfl
  rw [hp];have:=run_convert_bytes_string (P:=prog) W 259 9 5 none 0 0 underlying259 underlying5 underlying9;rw [this];simp [go_sem,bs];rfl
theorem vN {w:World} {B B':Nat} {e:TypeId} {size:Nat} {v:Value} {n:Nat} {xs:List Value} (h:w.ownsRow B e size v n xs) (hB:B'<=B):w.ownsRow B' e size v n xs:=by
 refine ⟨h.1,?_⟩;rcases h.2 with hn| ⟨g,cap,cur,rfl,hb,r⟩
 ·exact .inl hn
 ·exact .inr ⟨g,cap,cur,rfl,aK hB hb,r⟩
theorem Ta {w:World} {B:Nat} {e:TypeId} {size:Nat} {v:Value} {n:Nat} {xs:List Value} (h:w.ownsRow B e size v n xs):∀k,v.ownBlock=some k->B<=k:=by
 intro k hk;rcases h.2 with ⟨rfl,_⟩| ⟨g,cap,cur,rfl,hb,_⟩
 ·simp [Value.ownBlock] at hk
 ·simp [Value.ownBlock] at hk;subst hk;exact hb
theorem pe {W w1:World} {M B b:Nat} {v v':Value} {tmp:Obj} {e:TypeId} {size n:Nat} {xs:List Value} (hrow:W.ownsRow M e size v n xs) (hgrow:(W.alloc tmp).grownBy w1 v.ownBlock) (hb:b < M) (hlt:b < W.heap.size) (hne:b≠B):(w1.setCell ⟨B,0,none⟩ v').heap[b]? =W.heap[b]?:=by
 refine (bx w1 ⟨B,0,none⟩ v' b hne).trans ?_;refine (hgrow.block b (by simp;omega) (fun e=>?_)).trans (bE W tmp b hlt);have:=Ta hrow b e.symm;omega
theorem xU {β:Type} {B b:Nat} {o:Option Obj} (hb:b < B) (hs:∀(W:World),W.heap[b]? =o->b < W.heap.size):OwnFrom B (fun (_:β) W=>W.heap[b]? =o):=
 fun _ W W' row h hg hr=>(hg.block b (hs W h) (fun e=>by have:=(hr b e.symm).1;omega)).trans h
theorem Tc (F:Fence) (n:Nat) (h12:F.fn 118) (h24:F.fn 181) (XV:F.fn 254) (hro:F.round=none) (hn:3<=n) (d:List UInt8) (hd:d.length<=1000000) (w:World):
  CallsIn F n prog 118 #[.string (bs d)] w fun e w'=>∃v,e=.returned v/\w'.ownsRow w.heap.size 9 1 v (cutL d).length (strs (cutL d))/\Below w.heap.size w w':=by
 have h1:1<=n:=by omega
 obtain ⟨i0,hi,hz0,hz1,hz2⟩:=info_parts CA;refine callsIn_of_wp_marks func118 rfl h12 ?_ hro;simp only [ntmps118,bG,aQ,ah,Nat.reduceAdd,Nat.reduceSub,cD,cE,cG,cH,af,aq];have bO:=Boxed.new w 99 (.slice none 0 0);have fq:=dD w (.cells #[.slice none 0 0] 99);obtain ⟨xF,w2,hr,Bi,dS,hs2⟩:=Ih (w.alloc (.cells #[.slice none 0 0] 99)) d (by unfold maxLen;omega);rw [World.size_alloc] at hr Bi dS hs2;have yD:=dH Bi;have eG:=dH dS;have Kg:=dH hs2;have HBO:=dH bO;have eH:=dH fq;clear Bi dS hs2 bO fq;gi_wp2_with (gi_at_call 181;refine (Ee F (n - 1) h24 hro _ _ _ _).mono ?_;rintro e w' ⟨rfl,rfl⟩);have jA:Below w.heap.size w ((w2.alloc (.cells #[.slice (some ⟨w.heap.size+1,0,none⟩) d.length xF] 259)).alloc (.cells #[.int .i64 256] 3)):=
  ((eH.o.trans (eG.o.mono (bC _))).alloc (by have:=Kg.o;omega) _).alloc (by have:=Kg.o;simp;omega) _
 have bS:=Boxed.alloc (Boxed.new w2 259 (.slice (some ⟨w.heap.size+1,0,none⟩) d.length xF)) (.cells #[.int .i64 256] 3);have bN:=Boxed.new (w2.alloc (.cells #[.slice (some ⟨w.heap.size+1,0,none⟩) d.length xF] 259)) 3 (.int .i64 256);rw [World.size_alloc] at bN;have bO4:Boxed ((w2.alloc (.cells #[.slice (some ⟨w.heap.size+1,0,none⟩) d.length xF] 259)).alloc (.cells #[.int .i64 256] 3)) w.heap.size 99 (.slice none 0 0):=by
  refine Boxed.alloc (Boxed.alloc ?_ _) _;exact (eG.o.block _ (by omega)).trans HBO.o
 have RO:=dN.alloc (dN.alloc yD.o (.cells #[.slice (some ⟨w.heap.size+1,0,none⟩) d.length xF] 259)) (.cells #[.int .i64 256] 3);have hsz:((w2.alloc (.cells #[.slice (some ⟨w.heap.size+1,0,none⟩) d.length xF] 259)).alloc (.cells #[.int .i64 256] 3)).heap.size=w.heap.size+4:=by have:=Kg.o;simp;omega
 have hs2:=Kg.o;obtain ⟨w4,uP⟩:=dB ((w2.alloc (.cells #[.slice (some ⟨w.heap.size+1,0,none⟩) d.length xF] 259)).alloc (.cells #[.int .i64 256] 3));rw [hs2] at bS bN ⊢;rw [<-uP] at jA bS bN bO4 RO hsz ⊢;clear uP hr yD eG Kg HBO eH hs2;have hcap:d.length<=xF/\xF<=9223372036854775807/\(∀j u,(bv d)[j]? =some u->w4.cell? ⟨w.heap.size+1,j,none⟩=some u):=by
  rcases RO.2 with ⟨h,_⟩| ⟨g,cap,h,_,_,h1,h2,_,_,h3⟩
  ·cases h
  ·simp only [Value.slice.injEq,Option.some.injEq,Addr.mk.injEq,true_and,and_true] at h
   obtain ⟨rfl,rfl⟩:=h;exact ⟨h1,by unfold maxLen at h2;exact h2,h3⟩
 obtain ⟨hc1,hc2,hc3⟩:=hcap;refine wpIn_rangeFunc_ownG hro h1 (gf:=254) (lb:=#[.pointer (some ⟨w.heap.size+1+1,0,none⟩),.pointer (some ⟨w.heap.size+1+1+1,0,none⟩)]) rfl XV (enters_of func254 (by kernel_rfl) rfl)
  (C9 F (n - 1) XV hro (by omega) (w.heap.size+1+1) (w.heap.size+1+1+1) (w.heap.size+1) d.length xF _ (fun _=>rfl) hc1 hd hc2 w4 (by omega) (by omega) bS.cell bN.cell) Kept.trans (Kept.book (by omega) (by omega)) (aC _ _) (fun _=>rfl)
  (fun (pre:List Nat) W=>((∃v,Boxed W w.heap.size 99 v/\W.ownsRow w4.heap.size 9 1 v pre.length (strs (pre.map (piece d)))/\True)/\Below w.heap.size w W)/\W.heap[w.heap.size+1]? =w4.heap[w.heap.size+1]?/\w4.heap.size<=W.heap.size)
  (fun _ _ _=>False)
  (OwnFrom.and (OwnFrom.and (Own.from (holdsRow_own w4.heap.size w.heap.size 99 9 1 (fun pre:List Nat=>pre.length) (fun pre=>strs (pre.map (piece d))) (fun _ _=>True)) _) (ownFrom_below (aB _) (by omega))) (OwnFrom.and (xU (by omega) (fun W h=>by
   rcases aG (w.heap.size+1) W.heap.size with hlt|hge
   ·exact hlt
   ·rw [ak hge,cK (by omega)] at h;cases h)) (fun _ _ _ _ h hg _=>aK h hg.size)))
  (fun _ _ _ _ _ hs _ _=>hs)
  ⟨⟨⟨_,bO4,World.ownsRow_nil _ _ _ _,trivial⟩,jA⟩,rfl,aB _⟩
  (fun k=>{ tmps:=#[.string (bs d),undef,.slice none 0 0,.pointer (some ⟨w.heap.size,0,none⟩),SJ (w.heap.size+1) d.length k,.string (bs d),.slice (some ⟨w.heap.size+1,0,none⟩) d.length xF,.func (.func 254) #[] #[.pointer (some ⟨w.heap.size+1+1,0,none⟩),.pointer (some ⟨w.heap.size+1+1+1,0,none⟩)],SJ (w.heap.size+1) d.length k,undef,undef,undef,undef,undef,undef],defers:=[] }) ?assign ?body ?done ?stop
 case assign=>
  intro l x W K hK;gi_wp2;exact hK
 case body=>
  rintro l pre x W ⟨⟨⟨v,hv,hrow,_⟩,hB⟩,hg,hge⟩ hlt;have hc:=hv.cell;have Se:=Ii (W:=W) (g:=w.heap.size+1) (d:=d) (fun j u hu=>(aI (a:=⟨w.heap.size+1,j,none⟩) hg).trans (hc3 j u hu)) x;generalize SJ (w.heap.size+1) d.length x=pv at*;have hpl:pieces d.length<=4000:=by unfold pieces;omega
  gi_wp2_with (gi_at_builtin;refine wpListIn_append_own _ rfl _ _ 99 rfl w4.heap.size 9 i0 (.string ⟨#[]⟩) 1 16 underlying99 hi hz0 hz1 hz2 rfl (by decide) _ _ _ rfl (hrow.alloc _) ⟨W.heap.size,0,none⟩ 1 1 [.string (bs (piece d x))] rfl rfl (cell_one_new _ _ _) (by simp [Value.oneCell']) (by unfold maxLen;omega) (by omega) (by simp;omega) ?_;intro v' w1 hown' hgrow _;obtain ⟨g',cap',rfl⟩:=ownsRow_succ hown';obtain ⟨uG,Ht,hr2,hk2,dS⟩:=hv.appended (by decide) (vN hrow (B':=w.heap.size) (by omega)) hB.size (aB _) (vN hown' (B':=w.heap.size) (by omega)) hgrow;have hc1:=uG.cell;have zX:=uG.frozen);refine ⟨hk2.from _,⟨pe hrow hgrow (by omega) (by omega) (by omega),pe hrow hgrow (by omega) (by omega) (by omega)⟩,⟨⟨_,Ht,?_,trivial⟩,hB.trans dS⟩,(pe hrow hgrow (by omega) (by omega) (by omega)).trans hg,aK hge hk2.size⟩;have Yh:=hown'.kept (grownBy_setCell' w1 w.heap.size (.slice (some ⟨g',0,none⟩) (pre.length+1) cap')) (.inr (uG.not_row (by decide) hown').symm);rw [bV,jS,aO];exact Yh
 case done=>
  rintro D ys W hD rfl ⟨⟨⟨v,hv,hrow,_⟩,hB⟩,_⟩ hK;have hc:=hv.cell;gi_wp2;refine ⟨by simp,.inl ⟨_,_,rfl,run_takeDeferred hK,?_⟩⟩;refine ⟨_,results_tmp rfl _ _ _,v,rfl,?_,hB.trans (belowK_b (w:=w) (aB _) W D _ _ (by omega) hK rfl rfl)⟩;have:=vN (ownsRow_putObj hrow (.deferred none) hK rfl) (B':=w.heap.size) (by omega);rw [List.length_range] at this;unfold cutL;rw [bM,List.length_range];exact this
 case stop=>
  rintro D c pre W _ _ h _;exact h.elim
theorem cut_any (d:List UInt8) (hd:d.length<=1000000) (w:World):
  Calls prog 118 #[.string (bs d)] w fun e w'=>∃v,e=.returned v/\w'.ownsRow w.heap.size 9 1 v (cutL d).length (strs (cutL d))/\Below w.heap.size w w':=
 (callsIn_wide (n:=5)).1 (Tc Fence.wide 5 trivial trivial trivial rfl (by omega) d hd w)
end Pt
end Go.Proofs.YtgdaahffmcfhpaaGreatDoor
