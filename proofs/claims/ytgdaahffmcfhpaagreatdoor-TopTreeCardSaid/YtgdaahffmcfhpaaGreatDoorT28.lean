/- Lemmas on the way: Gp Gw Or Os Ot Ou Ov. -/
import Derived.Test.YtgdaahffmcfhpaaGreatDoorT22
import Derived.Test.YtgdaahffmcfhpaaGreatDoorT27
import Derived.Test.YtgdaahffmcfhpaaGreatDoorT00
set_option maxRecDepth 100000
set_option maxHeartbeats 8000000
namespace Go.Proofs.YtgdaahffmcfhpaaGreatDoor
open Tryz
section
open Go.RowKit
attribute [local go_sem] dO dL dQ dM
theorem tJ:∀{s:By},(47:UInt8)∈s->∃p r,s=p++47 :: r/\(47:UInt8)∉p
 |c :: s,h=>by
  by_cases hc:c=47
  ·exact ⟨[],s,by rw [hc];rfl,by simp⟩
  ·obtain ⟨p,r,e,hp⟩:=tJ (s:=s) (by simpa [Ne.symm hc] using h)
   exact ⟨c :: p,r,by rw [e];rfl,by simp [hp,Ne.symm hc]⟩
theorem ML:∀{p r:By},(47:UInt8)∉p->Lib.index (p++47 :: r) [47]=(p.length:Int)
 | [],r,_=>by rw [af,Lib.index,if_pos (by simp [List.isPrefixOf])];rfl
 |c :: p,r,h=>by
  have hc:c≠47:=fun e=>h (by simp [e])
  have ih:=ML (p:=p) (r:=r) (fun hm=>h (by simp [hm]));rw [aq,Lib.index,if_neg (by simp [List.isPrefixOf,Ne.symm hc]),ih,if_neg (by simp)];simp
theorem qy:∀(n:Nat) (s:By),s.length<=n->Lib.splitK [47] 0 (s.count 47) s=eW s
 |0,s,h=>by
  obtain rfl:s=[]:=List.length_eq_zero_iff.1 (by omega);rfl
 |n+1,s,h=>by
  by_cases hm:(47:UInt8)∈s
  ·obtain ⟨p,r,rfl,hp⟩:=tJ hm
   have hc:(p++47 :: r).count 47=r.count 47+1:=by
    rw [List.count_append,List.count_eq_zero.2 hp,List.count_cons_self];omega
   rw [hc,Lib.splitK,ML hp,if_neg (by simp),pq hp];have e1:(p++47 :: r).take (((p.length:Int)).toNat+0)=p:=by simp
   have e2:(p++47 :: r).drop (((p.length:Int)).toNat+[(47:UInt8)].length)=r:=by
    simp only [Int.toNat_natCast,aQ,ah];rw [show p.length+(0+1)=(p++[47]).length by simp,show p++47 :: r=(p++[47])++r by simp,List.drop_left]
   rw [e1,e2,qy n r (by simp at h;omega)]
  ·rw [List.count_eq_zero.2 hm,pn hm];rfl
theorem MM:∀s:By,eW s≠[]
 | []=>by simp [eW]
 |c :: r=>by
  rw [eW];split
  ·simp
  ·split <;> simp
theorem kD:∀s:By,∀p∈eW s,p.length<=s.length
 | [],p,h=>by simp [eW] at h;subst h;simp
 |c :: r,p,h=>by
  rw [eW] at h;split at h
  ·rcases aR.1 h with rfl|h
   ·simp
   ·have:=kD r p h;simp;omega
  ·cases hs:eW r with
   |nil=>exact absurd hs (MM r)
   |cons q qs=>
    rw [hs] at h;rcases aR.1 h with rfl|h
    ·have:=kD r q (by rw [hs];simp);simp;omega
    ·have:=kD r p (by rw [hs];simp [h]);simp;omega
theorem JS (s:By) (hs:s.length < 4294967281) (w:World):Calls prog 50 #[.string (bs s),.string ⟨#[47]⟩] w fun e w'=>
  ∃c,e=.returned (.slice (some ⟨w.heap.size,0,none⟩) (eW s).length c)/\Strs w' (some ⟨w.heap.size,0,none⟩) (eW s).length c (eW s)/\Below w.heap.size w w':=by
 have BG:Lib.countB (bs s) ⟨#[47]⟩=s.count 47:=by
  show Lib.count (bs s).data.toList [47]=_;rw [iQ,Lib.count_one]
 have hcl:s.count 47<=s.length:=List.count_le_length;have hC:Calls prog 158 #[.string (bs s),.string ⟨#[47]⟩] w fun e w'=>e=.returned (.int .i64 (Lib.countB (bs s) ⟨#[47]⟩))/\w'=w:=by
  refine (strings_Count_one (bs s) 47 w).mono fun e w' ⟨he,hw⟩=> ⟨?_,hw⟩
  rw [he,BG,iQ];rfl
 have hI:∀(x:ByteArray) (c:Array Value),x.size<=(bs s).size->Calls prog 159 #[.string x,.string ⟨#[47]⟩] (w.alloc (.cells c 9)) fun e w'=>e=.returned (.int .i64 (Lib.indexB x ⟨#[47]⟩))/\w'=w.alloc (.cells c 9):=fun x c _=>by
  refine (strings_Index_one x 47 _).mono fun e w' ⟨he,hw⟩=> ⟨?_,hw⟩
  rw [he];show _=Ending.returned (.int .i64 (Lib.index x.data.toList [47]));rw [Lib.index_one]
 have hg:=Any.strings_genSplit_core lays221 (by kernel_rfl) (bs s) ⟨#[47]⟩ 0 (-1) (s.count 47+1) w (by rw [dO];exact hs) (by decide) (aT _) hI hC (by decide) (by decide) (by rw [BG,dO,if_pos (by decide)];omega);have hlen:(Lib.splitB ⟨#[47]⟩ 0 (s.count 47) (bs s)).length=s.count 47+1:=Lib.splitB_all ⟨#[47]⟩ (by decide) 0 _ (bs s) BG;have OK:(Lib.splitB ⟨#[47]⟩ 0 (s.count 47) (bs s)).map (·.data.toList)=eW s:=by
  rw [Lib.splitB_data,iQ];exact qy s.length s (aB _)
 have tY:(eW s).length=s.count 47+1:=by rw [<-OK,bM,hlen]
 rw [Nat.add_sub_cancel] at hg;have e2:Lib.cellsOf (Lib.splitB ⟨#[47]⟩ 0 (s.count 47) (bs s)) (s.count 47+1)=((eW s).map fun p=>Value.string (bs p)).toArray:=by
  rw [<-hlen,Lib.cellsOf_full,<-OK,List.map_map];congr 2
 rw [e2,hlen] at hg;have HG:dG (Calls prog 98 #[.string (bs s),.string ⟨#[47]⟩,.int .i64 0,.int .i64 (-1)] w fun e w'=>e=.returned (.slice (some ⟨w.heap.size,0,none⟩) (s.count 47+1) (s.count 47+1))/\w'=w.alloc (.cells ((eW s).map fun p=>Value.string (bs p)).toArray 9)):=hg;have HL:=dH tY;clear hg hlen OK tY e2 hI hC BG;go_enter func50,ntmps50;go_wp2_with fail;refine HG.o.mono ?_;rintro e w2 ⟨rfl,hw⟩;have HW:=dH hw;clear hw;go_wp2_with fail;go_ret;refine ⟨s.count 47+1,by rw [HL.o];rfl,?_,by rw [HW.o];exact (aC _ w).alloc (aB _) _⟩;have hB:=Blk.new w 9 ((eW s).map fun p=>Value.string (bs p)).toArray;rw [<-HW.o] at hB;refine ⟨rfl,by rw [HL.o];exact aB _,by omega,fun i hi=> ⟨w.heap.size,0,[.string (bs (eW s)[i])],rfl,hB.lt,rfl,⟨rfl,by have:=kD s _ (ag hi);omega⟩,fun j u hu=>?_⟩⟩
 match j,hu with
 |0,hu=>
  cases hu;rw [hB.cell];simp [hi]
def lW (p:By->Bool) (xs:List By):Int:=match xs.findIdx? p with
 |some k=>k
 |none=>-1
theorem JT {p:By->Bool} {xs:List By} {k:Nat} (hk:k < xs.length) (h:p xs[k]=true) (ha:∀j (hj:j < xs.length),j < k->p xs[j]=false):lW p xs=k:=by
 have:xs.findIdx? p=some k:=bB.2 ⟨hk,h,fun j hj=>by rw [ha j (by omega) hj];decide⟩;unfold lW;rw [this]
theorem Cz {p:By->Bool} {xs:List By} (ha:∀j (hj:j < xs.length),p xs[j]=false):lW p xs= -1:=by
 have:xs.findIdx? p=none:=bP.2 fun x hx=>by
  obtain ⟨j,hj,rfl⟩:=bY.1 hx;exact ha j hj
 unfold lW;rw [this]
theorem FH (p:By->Bool) (xs:List By):decide (lW p xs≥0)=xs.any p:=by
 unfold lW;cases h:xs.findIdx? p with
 |none=>
  have hn:=bP.1 h;have:xs.any p=false:=List.any_eq_false.2 fun x hx=>by rw [hn x hx];decide
  rw [this];decide
 |some k=>
  obtain ⟨hk,hp,_⟩:=bB.1 h;have:xs.any p=true:=List.any_eq_true.2 ⟨_,ag hk,hp⟩;rw [this];exact decide_eq_true (by show (0:Int)<=k;omega)
theorem JU (g:Nat) (p:By->Bool) (eg:∀args w,(callFunc g args).run prog w=.ok (.enter g args) w) (A:Option Addr) (n c:Nat) (xs:List By) (w:World) (hx:Strs w A n c xs)
  (hcl:∀(x:By) (wr:World),x.length<=9223372036854775807->Calls prog g #[.string (bs x)] wr (dJ wr (.bool (p x)))):
  Calls prog 99 #[.slice A n c,.func (.func g) #[] #[]] w (dJ w (.int .i64 (lW p xs))):=by
 have hn:=hx.len;have qJ:=hx.max;have hle:=hx.le;have HX:=dH hx;have HC:dG (∀(x:By) (wr:World),x.length<=9223372036854775807->Calls prog g #[.string (bs x)] wr (dJ wr (.bool (p x)))):=hcl;clear hx hcl;go_enter func99,ntmps99;go_wp2_with fail;go_loopw [8] (fun i wr=>∃k:Nat,k<=xs.length/\i=.int .i64 k/\Below w.heap.size w wr/\∀j (hj:j < xs.length),j < k->p xs[j]=false) (fun i _=>xs.length - (intOf i).toNat)
 case atStart=>exact ⟨0,by omega,rfl,aC _ _,fun j _ h=>by omega⟩
 case round=>
  obtain ⟨k,hk,rfl,hb,hall⟩:=hrel;rcases aG k xs.length with hlt|hge
  ·obtain ⟨b,off,rfl,jY,c0,Dh⟩:=Strs.at_ (HX.o.below hb) hlt
   have HA:=dH hall;have BA:=dH (HC.o xs[k] wr Dh);obtain ⟨x,hx⟩:∃x,xs[k]=x:=⟨_,rfl⟩;rw [hx] at c0 BA;have tV:=dH hx;have HB:=dH hb;have hki:(k:Int) < (n:Int):=by omega
   clear hall hx hb Dh;go_wp2_with fail;refine BA.o.mono ?_;rintro e w2 ⟨rfl,dS⟩;have di:=HB.o.trans (dS.mono HB.o.size);cases hc:p x with
   |true=>
    go_wp2_with fail;have eC:lW p xs=k:=JT hlt (by rw [tV.o];exact hc) HA.o;go_ret;exact ⟨by rw [eC];rfl,di⟩
   |false=>
    go_wp2_with fail;exact ⟨⟨k+1,by omega,by go_num,di,fun j hj hjk=>by
     by_cases e:j=k
     ·subst e;rw [tV.o];exact hc
     ·exact HA.o j hj (by omega)⟩,by simp [intOf];omega⟩
  ·have hkn:¬ (k:Int) < (n:Int):=by omega
   have eC:lW p xs= -1:=Cz fun j hj=>hall j hj (by omega)
   clear hall;go_wp2_with fail;go_ret;exact ⟨rfl,hb⟩
theorem pN (g:Nat) (p:By->Bool) (eg:∀args w,(callFunc g args).run prog w=.ok (.enter g args) w) (A:Option Addr) (n c:Nat) (xs:List By) (w:World) (hx:Strs w A n c xs)
  (hcl:∀(x:By) (wr:World),x.length<=9223372036854775807->Calls prog g #[.string (bs x)] wr (dJ wr (.bool (p x)))):
  Calls prog 51 #[.slice A n c,.func (.func g) #[] #[]] w (dJ w (.bool (xs.any p))):=by
 have HI:=dH (JU g p eg A n c xs w hx hcl);have HF:=dH (FH p xs);generalize lW p xs=f at*;clear hx hcl;go_enter func51,ntmps51;go_wp2_with fail;refine HI.o.mono ?_;rintro e w2 ⟨rfl,hb⟩;have HB:=dH hb;clear hb;go_wp2_with fail;go_ret;exact ⟨by rw [<-HF.o];rfl,HB.o⟩
theorem JV (x:By) (w:World) (hx:x.length<=9223372036854775807):Calls prog 52 #[.string (bs x)] w (dJ w (.bool (!rightN x))):=by
 have HR:=dH (oS x hx w);cases h:rightN x with
 |true=>
  rw [mA h] at HR;go_enter func52,ntmps52;go_wp2_with fail;refine HR.o.mono ?_;rintro e w2 ⟨rfl,hb⟩;have HB:=dH hb;clear hb;go_wp2_with fail;go_ret;exact ⟨rfl,HB.o⟩
 |false=>
  rw [ni h] at HR;go_enter func52,ntmps52;go_wp2_with fail;refine HR.o.mono ?_;rintro e w2 ⟨rfl,hb⟩;have HB:=dH hb;clear hb;go_wp2_with fail;go_ret;exact ⟨rfl,HB.o⟩
theorem MN:∀args w,(callFunc 52 args).run prog w=.ok (.enter 52 args) w:=enters_of func52 (by decide) rfl
theorem QZ (l:List By):l.any (fun x=>!rightN x)= !(l.all rightN):=by
 induction l with
 |nil=>rfl
 |cons x l ih=>simp only [List.any_cons,List.all_cons,ih,Bool.not_and]
theorem D2 (s:By) (hs:s.length < 4294967281) (w:World):Calls prog 14 #[.string (bs s)] w (dJ w (.bool (nk s))):=by
 have HS:=dH (JS s hs w);have hp:dG (nk s=(decide ((eW s).length<=16) && (eW s).all rightN)):=rfl;by_cases h:(eW s).length<=16
 ·have hd:decide (((eW s).length:Int)<=16)=true:=decide_eq_true (by omega)
  have eC:dG ((!((eW s).any fun x=>!rightN x))=nk s):=by
   show _=_;rw [hp.o,QZ,Bool.not_not,decide_eq_true h,Bool.true_and]
  clear hp h;go_enter func14,ntmps14;go_wp2_with fail;refine HS.o.mono ?_;rintro e w2 ⟨c,rfl,hS,hb⟩;have HC:=dH (pN 52 (fun x=>!rightN x) MN _ _ c _ w2 hS (fun x wr hx=>JV x wr hx));have HB:=dH hb;obtain ⟨an,han⟩:=dB ((eW s).any fun x=>!rightN x)
  rw [<-han] at eC HC;clear hS hb han;go_wp2_with fail;refine HC.o.mono ?_;rintro e w3 ⟨rfl,di⟩;have dw:=dF HB di;clear di;go_wp2_with fail;go_ret;exact ⟨by rw [<-eC.o];rfl,dw.o⟩
 ·have hd:decide (((eW s).length:Int)<=16)=false:=decide_eq_false (by omega)
  have eC:dG (nk s=false):=by show _=_;rw [hp.o,decide_eq_false h];rfl
  clear hp h;go_enter func14,ntmps14;go_wp2_with fail;refine HS.o.mono ?_;rintro e w2 ⟨c,rfl,hS,hb⟩;have HB:=dH hb;clear hS hb;go_wp2_with fail;go_ret;exact ⟨by rw [eC.o];rfl,HB.o⟩
theorem D3 (p s:By):(Lib.hasPrefix p s && !(Lib.trimPrefix p s).isEmpty)=(s.isPrefixOf p && !decide (p=s)):=by
 unfold Lib.trimPrefix Lib.hasPrefix;cases h:s.isPrefixOf p with
 |false=>simp
 |true=>
  obtain ⟨t,rfl⟩:=List.isPrefixOf_iff_prefix.1 h;simp only [if_true,Bool.true_and];cases t with
  |nil=>simp
  |cons=>simp
theorem wB (p s:By) (hs:s.length<=1000000) (w:World):Calls prog 17 #[.string (bs p),.string (bs s)] w (dJ w (.bool (lS p s))):=by
 have O8:bs s++(⟨#[47]⟩:ByteArray)=bs (s++[47]):=dM s [47];have HC:dG (Calls prog 56 #[.string (bs p),.string (bs (s++[47]))] w fun e w'=>e=.returned (.tuple #[.string (bs (Lib.trimPrefix p (s++[47]))),.bool (Lib.hasPrefix p (s++[47]))])/\w'=w):=by
  have:=strings_CutPrefix (bs p) (bs (s++[47])) w;rw [iQ,iQ] at this;exact this
 have hr:=D3 p (s++[47]);obtain ⟨rs,hrs⟩:=dB (Lib.trimPrefix p (s++[47]));obtain ⟨is,RP⟩:=dB (Lib.hasPrefix p (s++[47]));rw [<-hrs,<-RP] at hr HC;have hW:dG (lS p s=(decide (s=[46]) || decide (p=s) || (is && !rs.isEmpty))):=by show _=_;rw [hr];rfl
 obtain ⟨sl,Dh⟩:=dB (s++[47]);rw [<-Dh] at O8 HC;clear hr hrs RP Dh;have e1:(s ==[46])=decide (s=[46]):=by rw [Bool.eq_iff_iff];simp
 have e2:(p ==s)=decide (p=s):=by rw [Bool.eq_iff_iff];simp
 have hlen:¬ (9223372036854775807 < s.length+1):=by omega
 cases h1:decide (s=[46]) with
 |true=>
  rw [h1] at e1 hW;clear e2 h1;go_enter func17,ntmps17;go_wp2_with fail;refine HC.o.mono ?_;rintro e w2 ⟨rfl,rfl⟩;go_wp2_with fail;go_ret;exact ⟨by rw [hW.o];rfl,aC _ _⟩
 |false=>
  cases h2:decide (p=s) with
  |true=>
   rw [h1] at e1 hW;rw [h2] at e2 hW;clear h1 h2;go_enter func17,ntmps17;go_wp2_with fail;refine HC.o.mono ?_;rintro e w2 ⟨rfl,rfl⟩;go_wp2_with fail;go_ret;exact ⟨by rw [hW.o];rfl,aC _ _⟩
  |false=>
   rw [h1] at e1 hW;rw [h2] at e2 hW;clear h1 h2;cases is with
   |false=>
    go_enter func17,ntmps17;go_wp2_with fail;refine HC.o.mono ?_;rintro e w2 ⟨rfl,rfl⟩;go_wp2_with fail;go_ret;exact ⟨by rw [hW.o];rfl,aC _ _⟩
   |true=>
    go_enter func17,ntmps17;go_wp2_with fail;refine HC.o.mono ?_;rintro e w2 ⟨rfl,rfl⟩;go_wp2_with fail;go_ret;exact ⟨by rw [hW.o];rfl,aC _ _⟩
theorem Gl (x y:dV) (w:World):(binOp .eql 32 (ov x) (ov y)).run prog w=.ok (.bool (decide (x=y))) w:=by
 unfold ov;simp [go_sem];by_cases e1:x.st.1=y.st.1
 case neg=>rw [if_neg e1,decide_eq_false (fun e=>e1 (by rw [e]))]
 by_cases e2:x.st.2=y.st.2
 case neg=>rw [if_pos e1,if_neg e2,decide_eq_false (fun e=>e2 (by rw [e]))]
 by_cases e3:x.seq=y.seq
 case neg=>rw [if_pos e1,if_pos e2,if_neg e3,decide_eq_false (fun e=>e3 (by rw [e]))]
 by_cases e4:x.kind=y.kind
 case neg=>rw [if_pos e1,if_pos e2,if_pos e3,if_neg e4,decide_eq_false (fun e=>e4 (by rw [e]))]
 by_cases e5:x.node.1=y.node.1
 case neg=>rw [if_pos e1,if_pos e2,if_pos e3,if_pos e4,if_neg e5,decide_eq_false (fun e=>e5 (by rw [e]))]
 by_cases e6:x.node.2=y.node.2
 case neg=>rw [if_pos e1,if_pos e2,if_pos e3,if_pos e4,if_pos e5,if_neg e6,decide_eq_false (fun e=>e6 (by rw [e]))]
 by_cases e7:x.dir=y.dir
 case neg=>rw [if_pos e1,if_pos e2,if_pos e3,if_pos e4,if_pos e5,if_pos e6,if_neg e7,decide_eq_false (fun e=>e7 (by rw [e]))]
 by_cases e8:x.par.1=y.par.1
 case neg=>rw [if_pos e1,if_pos e2,if_pos e3,if_pos e4,if_pos e5,if_pos e6,if_pos e7,if_neg e8,decide_eq_false (fun e=>e8 (by rw [e]))]
 by_cases e9:x.par.2=y.par.2
 case neg=>rw [if_pos e1,if_pos e2,if_pos e3,if_pos e4,if_pos e5,if_pos e6,if_pos e7,if_pos e8,if_neg e9,decide_eq_false (fun e=>e9 (by rw [e]))]
 by_cases um:x.nm=y.nm
 case neg=>rw [if_pos e1,if_pos e2,if_pos e3,if_pos e4,if_pos e5,if_pos e6,if_pos e7,if_pos e8,if_pos e9,if_neg um,decide_eq_false (fun e=>um (by rw [e]))]
 by_cases e11:x.mf=y.mf
 case neg=>rw [if_pos e1,if_pos e2,if_pos e3,if_pos e4,if_pos e5,if_pos e6,if_pos e7,if_pos e8,if_pos e9,if_pos um,if_neg e11,decide_eq_false (fun e=>e11 (by rw [e]))]
 rw [if_pos e1,if_pos e2,if_pos e3,if_pos e4,if_pos e5,if_pos e6,if_pos e7,if_pos e8,if_pos e9,if_pos um,if_pos e11,decide_eq_true];cases x;cases y;simp only [dV.mk.injEq];exact ⟨Prod.ext e1 e2,e3,e4,Prod.ext e5 e6,e7,Prod.ext e8 e9,um,e11⟩
def nB (s:St):Bool:=decide (s=(0,0)) || rightS s
theorem qF (s:St) (w:World):Calls prog 87 #[.agg #[.int .i64 s.1,.int .i64 s.2]] w (dJ w (.bool (nB s))):=by
 have HR:=dH (ku s (w.alloc (.cells #[.int .i64 s.1,.int .i64 s.2] 30)));have dR:=dH ((aC w.heap.size w).alloc (aB _) (.cells #[.int .i64 s.1,.int .i64 s.2] 30));have he:=gU s (0,0);have HP:dG (nB s=(decide (s=(0,0)) || rightS s)):=rfl;cases h:decide (s=(0,0)) with
 |true=>
  rw [h] at HP;simp only [h] at he;clear h;go_enter func87,ntmps87;go_wp2_with fail;go_ret;exact ⟨by rw [HP.o];rfl,dR.o⟩
 |false=>
  rw [h] at HP;simp only [h] at he;clear h;cases hr:rightS s with
  |true=>
   rw [hr] at HR HP;simp only [if_true] at HR;clear hr;go_enter func87,ntmps87;go_wp2_with fail;refine HR.o.mono ?_;rintro e w2 ⟨rfl,hb⟩;have HB:=dF dR hb;clear hb;go_wp2_with fail;go_ret;exact ⟨by rw [HP.o];rfl,HB.o⟩
  |false=>
   rw [hr] at HR HP;simp only [bR,if_false] at HR;clear hr;go_enter func87,ntmps87;go_wp2_with fail;refine HR.o.mono ?_;rintro e w2 ⟨rfl,hb⟩;have HB:=dF dR hb;clear hb;go_wp2_with fail;go_ret;exact ⟨by rw [HP.o];rfl,HB.o⟩
def wC (x:dV):dV:=⟨x.st,x.seq,x.kind,x.st,x.dir,x.par,x.nm,if x.dir then [] else x.mf⟩
def qz (x:dV):dV:=⟨x.st,x.seq,x.kind,x.node,false,x.par,x.nm,[]⟩
def pO (x:dV):dV:=⟨x.st,x.seq,x.kind,x.node,false,(0,0),[],x.mf⟩
def iG (x:dV):dV:=⟨x.st,x.seq,x.kind,x.node,false,(0,0),[],[]⟩
def shapedB (x:dV):Bool:=
 if x.kind=1 then decide (x=wC x) && nB x.par && !decide (x.par=x.node) && decide (x.mf.length<=600)
 else if x.kind=2 then decide (x=qz x) && nB x.par && rightS x.node
 else if x.kind=3 then decide (x=pO x) && rightS x.node && decide (x.mf.length<=600)
 else if x.kind=4 then decide (x=iG x) && rightS x.node
 else false
theorem r8 (x y:dV) (w:World):Blk ((w.alloc (.cells (oc x).toArray 32)).alloc (.cells (oc y).toArray 32)) w.heap.size 32 (oc x).toArray/\Blk ((w.alloc (.cells (oc x).toArray 32)).alloc (.cells (oc y).toArray 32)) (w.heap.size+1) 32 (oc y).toArray/\
  Below w.heap.size w ((w.alloc (.cells (oc x).toArray 32)).alloc (.cells (oc y).toArray 32)):=by
 have hsz:(w.alloc (.cells (oc x).toArray 32)).heap.size=w.heap.size+1:=aZ _;have h2:=Blk.new (w.alloc (.cells (oc x).toArray 32)) 32 (oc y).toArray;rw [hsz] at h2;have b1:=(aC w.heap.size w).alloc (aB _) (.cells (oc x).toArray 32);exact ⟨(Blk.new w 32 (oc x).toArray).alloc _,h2,b1.alloc b1.size _⟩
theorem Qa (x:dV) (h4:x.kind=4) (w:World):Calls prog 33 #[ov x] w (dJ w (.bool (decide (x=iG x) && rightS x.node))):=by
 obtain ⟨fq,eY,hb⟩:=r8 x (iG x) w;obtain ⟨p0,p1,p2,p3,p4,p5,p6,p7,p8,p9,yP⟩:=eO fq;obtain ⟨q0,q1,q2,q3,q4,q5,q6,q7,q8,q9,BN⟩:=eO eY;have he:=Gl x (iG x);obtain ⟨w2,eV⟩:=dB ((w.alloc (.cells (oc x).toArray 32)).alloc (.cells (oc (iG x)).toArray 32));rw [<-eV] at fq eY hb p0 p1 p2 p3 p4 p5 p6 p7 p8 p9 yP q0 q1 q2 q3 q4 q5 q6 q7 q8 q9 BN;have k1:(x.kind ==1)=false:=by rw [beq_eq_false_iff_ne];omega
 have k2:(x.kind ==2)=false:=by rw [beq_eq_false_iff_ne];omega
 have k3:(x.kind ==3)=false:=by rw [beq_eq_false_iff_ne];omega
 have k4:(x.kind ==4)=true:=by rw [beq_iff_eq];exact h4
 have HR:=dH (ku x.node w2);unfold oc iG at eV;unfold iG at q0 q1 q2 q3 q4 q5 q6 q7 q8 q9 BN;unfold ov iG at he;have Ko:(bs []:ByteArray)= ⟨#[]⟩:=rfl;simp only [Ko] at eV q9 BN he;have HW:=dH eV;have HB:=dH hb;have rK:dG ((decide (x= ⟨x.st,x.seq,x.kind,x.node,false,(0,0),[],[]⟩))=decide (x=iG x)):=rfl;obtain ⟨b,qT⟩:=dB (decide (x=iG x));simp only [rK.o,<-qT] at he;rw [<-qT];clear eV hb fq eY qT rK h4;unfold ov;cases b with
 |false=>
  go_enter func33,ntmps33;go_wp2_with fail;rw [<-HW.o];go_ret;exact ⟨rfl,HB.o⟩
 |true=>
  cases hr:rightS x.node with
  |true=>
   rw [hr] at HR;simp only [if_true] at HR;clear hr;go_enter func33,ntmps33;go_wp2_with fail;rw [<-HW.o];refine HR.o.mono ?_;rintro e w3 ⟨rfl,di⟩;have dw:=dF HB di;clear di;go_wp2_with fail;go_ret;exact ⟨rfl,dw.o⟩
  |false=>
   rw [hr] at HR;simp only [bR,if_false] at HR;clear hr;go_enter func33,ntmps33;go_wp2_with fail;rw [<-HW.o];refine HR.o.mono ?_;rintro e w3 ⟨rfl,di⟩;have dw:=dF HB di;clear di;go_wp2_with fail;go_ret;exact ⟨rfl,dw.o⟩
theorem Qb (x:dV) (h4:x.kind=3) (hm:x.mf.length<=9223372036854775807) (w:World):Calls prog 33 #[ov x] w (dJ w (.bool (decide (x=pO x) && rightS x.node && decide (x.mf.length<=600)))):=by
 obtain ⟨fq,eY,hb⟩:=r8 x (pO x) w;obtain ⟨p0,p1,p2,p3,p4,p5,p6,p7,p8,p9,yP⟩:=eO fq;obtain ⟨q0,q1,q2,q3,q4,q5,q6,q7,q8,q9,BN⟩:=eO eY;have he:=Gl x (pO x);obtain ⟨w2,eV⟩:=dB ((w.alloc (.cells (oc x).toArray 32)).alloc (.cells (oc (pO x)).toArray 32));rw [<-eV] at fq eY hb p0 p1 p2 p3 p4 p5 p6 p7 p8 p9 yP q0 q1 q2 q3 q4 q5 q6 q7 q8 q9 BN;have k1:(x.kind ==1)=false:=by rw [beq_eq_false_iff_ne];omega
 have k2:(x.kind ==2)=false:=by rw [beq_eq_false_iff_ne];omega
 have k3:(x.kind ==3)=true:=by rw [beq_iff_eq];exact h4
 have HR:=dH (ku x.node w2);unfold oc pO at eV;unfold pO at q0 q1 q2 q3 q4 q5 q6 q7 q8 q9 BN;unfold ov pO at he;have Ko:(bs []:ByteArray)= ⟨#[]⟩:=rfl;simp only [Ko] at eV q9 he;have HW:=dH eV;have HB:=dH hb;have rK:dG ((decide (x= ⟨x.st,x.seq,x.kind,x.node,false,(0,0),[],x.mf⟩))=decide (x=pO x)):=rfl;obtain ⟨b,qT⟩:=dB (decide (x=pO x));simp only [rK.o,<-qT] at he;rw [<-qT];clear eV hb fq eY qT rK h4;unfold ov;cases b with
 |false=>
  go_enter func33,ntmps33;go_wp2_with fail;rw [<-HW.o];go_ret;exact ⟨rfl,HB.o⟩
 |true=>
  cases hr:rightS x.node with
  |true=>
   rw [hr] at HR;simp only [if_true] at HR;clear hr;have hd:decide ((x.mf.length:Int)<=600)=decide (x.mf.length<=600):=decide_eq_decide.2 (by omega);have HD:=dH hd;clear hd;go_enter func33,ntmps33;go_wp2_with fail;rw [<-HW.o];refine HR.o.mono ?_;rintro e w3 ⟨rfl,di⟩;have ZK:=dP di (dn yP) yP;have dw:=dF HB di;clear di;go_wp2_with fail;go_ret;exact ⟨by first|rfl|(rw [<-HD.o];rfl),dw.o⟩
  |false=>
   rw [hr] at HR;simp only [bR,if_false] at HR;clear hr;go_enter func33,ntmps33;go_wp2_with fail;rw [<-HW.o];refine HR.o.mono ?_;rintro e w3 ⟨rfl,di⟩;have dw:=dF HB di;clear di;go_wp2_with fail;go_ret;exact ⟨rfl,dw.o⟩
def KO (B:Nat) (x:dV) (w:World):Prop:=Blk w B 32 (oc x).toArray
theorem KO.cells {B:Nat} {x:dV} {w:World} (h:KO B x w):w.cell? ⟨B,0,none⟩=some (.int .i64 x.st.1)/\w.cell? ⟨B,1,none⟩=some (.int .i64 x.st.2)/\w.cell? ⟨B,6,none⟩=some (.bool x.dir)/\w.cell? ⟨B,7,none⟩=some (.int .i64 x.par.1)/\w.cell? ⟨B,8,none⟩=some (.int .i64 x.par.2)/\w.cell? ⟨B,9,none⟩=some (.string (bs x.nm)):=
 ⟨Blk.cell h 0,Blk.cell h 1,Blk.cell h 6,Blk.cell h 7,Blk.cell h 8,Blk.cell h 9⟩
theorem KO.drew {B:Nat} {x:dV} {w:World} (h:KO B x w):KO B x w.drew:=h
theorem KO.set {B:Nat} {x:dV} {w:World} (h:KO B x w) (j:Nat) (u:Value):KO B x (w.setCell ⟨B+1,j,none⟩ u):=Blk.far h (p:=⟨B+1,j,none⟩) (by show B≠B+1;omega) u
theorem Qc (x:dV) (h4:x.kind=2) (w:World):Calls prog 33 #[ov x] w (dJ w (.bool (decide (x=qz x) && nB x.par && rightS x.node))):=by
 obtain ⟨fq,eY,hb⟩:=r8 x (iG x) w;obtain ⟨p0,p1,p2,p3,p4,p5,p6,p7,p8,p9,yP⟩:=eO fq;have he:=Gl x (qz x);obtain ⟨w2,eV⟩:=dB ((w.alloc (.cells (oc x).toArray 32)).alloc (.cells (oc (iG x)).toArray 32));rw [<-eV] at fq eY hb;have k1:(x.kind ==1)=false:=by rw [beq_eq_false_iff_ne];omega
 have k2:(x.kind ==2)=true:=by rw [beq_iff_eq];exact h4
 have q7:=(eY.cell 7);have q8:=(eY.cell 8);have q9:=(eY.cell 9);have f7:=(eY.frozen 7);have f8:=(eY.frozen 8);have f9:=(eY.frozen 9);unfold oc iG at eV q7 q8 q9;unfold oc at p0 p1 p2 p3 p4 p5 p6 p7 p8 p9 yP;unfold ov qz at he;have Ko:(bs []:ByteArray)= ⟨#[]⟩:=rfl;simp only [aP,aS,aW] at q7 q8 q9;simp only [Ko] at eV he q9;have HW:=dH eV;have HB:=dH hb;have HK:dG (KO w.heap.size x w2):=fq;have eG:=dH eY;have rK:dG ((decide (x= ⟨x.st,x.seq,x.kind,x.node,false,x.par,x.nm,[]⟩))=decide (x=qz x)):=rfl;obtain ⟨b,qT⟩:=dB (decide (x=qz x));simp only [rK.o,<-qT] at he;rw [<-qT];clear eV hb fq eY qT rK h4;unfold ov;go_enter func33,ntmps33;go_wp2_with fail;rw [<-HW.o];clear p0 p1 p2 p3 p4 p5 p6 p7 p8 p9 yP;go_region_held3 (fun w'=>w'.cell? ⟨w.heap.size,0,none⟩=some (.int .i64 x.st.1)/\w'.cell? ⟨w.heap.size,1,none⟩=some (.int .i64 x.st.2)/\w'.cell? ⟨w.heap.size,6,none⟩=some (.bool x.dir)/\w'.cell? ⟨w.heap.size,7,none⟩=some (.int .i64 x.par.1)/\w'.cell? ⟨w.heap.size,8,none⟩=some (.int .i64 x.par.2)/\w'.cell? ⟨w.heap.size,9,none⟩=some (.string (bs x.nm)))
  (exact KO.cells (by repeat (first|exact HK.o|apply KO.drew|apply KO.set)))
  (first|fail)
 rename_i dW;clear dW q7 q8 q9 f7 f8 f9;have lM:Blk (((w2.setCell ⟨w.heap.size+1,7,none⟩ (.int .i64 x.par.1)).setCell ⟨w.heap.size+1,8,none⟩ (.int .i64 x.par.2)).setCell ⟨w.heap.size+1,9,none⟩ (.string (bs x.nm))).drew w.heap.size 32 (oc x).toArray:=((HK.o.set 7 _).set 8 _).set 9 _;have Rb:Blk (((w2.setCell ⟨w.heap.size+1,7,none⟩ (.int .i64 x.par.1)).setCell ⟨w.heap.size+1,8,none⟩ (.int .i64 x.par.2)).setCell ⟨w.heap.size+1,9,none⟩ (.string (bs x.nm))).drew (w.heap.size+1) 32 (oc (qz x)).toArray:=by
  refine Blk.drew ?_;have:=Blk.set_ (Blk.set_ (Blk.set_ eG.o 7 (.int .i64 x.par.1)) 8 (.int .i64 x.par.2)) 9 (.string (bs x.nm));simpa [oc,iG,qz] using this
 have di:Below w.heap.size w (((w2.setCell ⟨w.heap.size+1,7,none⟩ (.int .i64 x.par.1)).setCell ⟨w.heap.size+1,8,none⟩ (.int .i64 x.par.2)).setCell ⟨w.heap.size+1,9,none⟩ (.string (bs x.nm))).drew:=
  (((HB.o.setCell (p:=⟨w.heap.size+1,7,none⟩) (bC _) _).setCell (p:=⟨w.heap.size+1,8,none⟩) (bC _) _).setCell (p:=⟨w.heap.size+1,9,none⟩) (bC _) _).drew
 generalize (((w2.setCell ⟨w.heap.size+1,7,none⟩ (.int .i64 x.par.1)).setCell ⟨w.heap.size+1,8,none⟩ (.int .i64 x.par.2)).setCell ⟨w.heap.size+1,9,none⟩ (.string (bs x.nm))).drew=w3 at*;obtain ⟨p0,p1,p2,p3,p4,p5,p6,p7,p8,p9,yP⟩:=eO lM;obtain ⟨q0,q1,q2,q3,q4,q5,q6,q7,q8,q9,BN⟩:=eO Rb;unfold qz at q0 q1 q2 q3 q4 q5 q6 q7 q8 q9 BN;simp only [Ko] at BN;have dw:=dH di;have HP:=dH (qF x.par w3);clear HK eG lM Rb di HW HB;cases b with
 |false=>
  go_wp2_with fail;go_ret;exact ⟨rfl,dw.o⟩
 |true=>
  cases hpl:nB x.par with
  |false=>
   rw [hpl] at HP;have Be:=dH hpl;clear hpl;go_wp2_with fail;refine HP.o.mono ?_;rintro e w4 ⟨rfl,hb4⟩;have fD:=dF dw hb4;clear hb4;go_wp2_with fail;go_ret;exact ⟨by rw [Be.o];rfl,fD.o⟩
  |true=>
   rw [hpl] at HP;have Be:=dH hpl;clear hpl;go_wp2_with fail;refine HP.o.mono ?_;rintro e w4 ⟨rfl,hb4⟩;have fD:=dF dw hb4;have p4':=dP hb4 (dn p4) p4;have p5':=dP hb4 (dn p5) p5;have HR:=dH (ku x.node w4);clear hb4;cases hr:rightS x.node with
   |true=>
    rw [hr] at HR;simp only [if_true] at HR;have HRr:=dH hr;clear hr;go_wp2_with fail;refine HR.o.mono ?_;rintro e w5 ⟨rfl,eu⟩;have fk:=dF fD eu;clear eu;go_wp2_with fail;go_ret;exact ⟨by rw [Be.o,HRr.o];rfl,fk.o⟩
   |false=>
    rw [hr] at HR;simp only [bR,if_false] at HR;have HRr:=dH hr;clear hr;go_wp2_with fail;refine HR.o.mono ?_;rintro e w5 ⟨rfl,eu⟩;have fk:=dF fD eu;clear eu;go_wp2_with fail;go_ret;exact ⟨by rw [Be.o,HRr.o];rfl,fk.o⟩
theorem tK (a b:St) (w:World):(binOp .neq 30 (.agg #[.int .i64 a.1,.int .i64 a.2]) (.agg #[.int .i64 b.1,.int .i64 b.2])).run prog w=.ok (.bool (!decide (a=b))) w:=by
 simp [go_sem];by_cases e1:a.1=b.1
 ·by_cases e2:a.2=b.2
  ·have:a=b:=Prod.ext e1 e2
   subst this;simp
  ·have:a≠b:=fun h=>e2 (by rw [h])
   simp [e1,e2,this]
 ·have:a≠b:=fun h=>e1 (by rw [h])
  simp [e1,this]
structure KP (B:Nat) (x:dV) (w:World):Prop where
 blk:Blk w B 32 (oc x).toArray
theorem KP.cells {B:Nat} {x:dV} {w:World} (h:KP B x w):w.cell? ⟨B,0,none⟩=some (.int .i64 x.st.1)/\w.cell? ⟨B,1,none⟩=some (.int .i64 x.st.2)/\w.cell? ⟨B,6,none⟩=some (.bool x.dir)/\w.cell? ⟨B,7,none⟩=some (.int .i64 x.par.1)/\w.cell? ⟨B,8,none⟩=some (.int .i64 x.par.2)/\w.cell? ⟨B,9,none⟩=some (.string (bs x.nm)):=
 ⟨Blk.cell h.blk 0,Blk.cell h.blk 1,Blk.cell h.blk 6,Blk.cell h.blk 7,Blk.cell h.blk 8,Blk.cell h.blk 9⟩
theorem KP.drew {B:Nat} {x:dV} {w:World} (h:KP B x w):KP B x w.drew:=⟨h.blk⟩
theorem KP.set {B:Nat} {x:dV} {w:World} (h:KP B x w) (j:Nat) (u:Value):KP B x (w.setCell ⟨B+1,j,none⟩ u):=⟨Blk.far h.blk (p:=⟨B+1,j,none⟩) (by show B≠B+1;omega) u⟩
theorem Qd (x:dV) (h4:x.kind=1) (hm:x.mf.length<=9223372036854775807) (w:World):Calls prog 33 #[ov x] w (dJ w (.bool (decide (x=wC x) && nB x.par && !decide (x.par=x.node) && decide (x.mf.length<=600)))):=by
 obtain ⟨fq,eY,hb⟩:=r8 x (iG x) w;obtain ⟨p0,p1,p2,p3,p4,p5,p6,p7,p8,p9,yP⟩:=eO fq;have he:=Gl x (wC x);have hne:=tK x.par x.node;obtain ⟨w2,eV⟩:=dB ((w.alloc (.cells (oc x).toArray 32)).alloc (.cells (oc (iG x)).toArray 32));rw [<-eV] at fq eY hb;have k1:(x.kind ==1)=true:=by rw [beq_iff_eq];exact h4
 have q4:=(eY.cell 4);have q5:=(eY.cell 5);have q6:=(eY.cell 6);have q7:=(eY.cell 7);have q8:=(eY.cell 8);have q9:=(eY.cell 9);have f4:=(eY.frozen 4);have f5:=(eY.frozen 5);have f6:=(eY.frozen 6);have f7:=(eY.frozen 7);have f8:=(eY.frozen 8);have f9:=(eY.frozen 9);unfold oc iG at eV q4 q5 q6 q7 q8 q9;unfold oc at p0 p1 p2 p3 p4 p5 p6 p7 p8 p9 yP;unfold ov wC at he;have Ko:(bs []:ByteArray)= ⟨#[]⟩:=rfl;simp only [aP,aS,aW] at q4 q5 q6 q7 q8 q9;simp only [Ko] at eV q9;have HW:=dH eV;have HB:=dH hb;have HK:dG (KP w.heap.size x w2):=⟨fq⟩;have eG:=dH eY;have rK:dG ((decide (x= ⟨x.st,x.seq,x.kind,x.st,x.dir,x.par,x.nm,if x.dir then [] else x.mf⟩))=decide (x=wC x)):=rfl;obtain ⟨b,qT⟩:=dB (decide (x=wC x));obtain ⟨bn,WX⟩:=dB (decide (x.par=x.node));simp only [rK.o,<-qT] at he;simp only [<-WX] at hne;rw [<-qT,<-WX];clear eV hb fq eY qT rK h4 WX;unfold ov;go_enter func33,ntmps33;go_wp2_with fail;rw [<-HW.o];clear p0 p1 p2 p3 p4 p5 p6 p7 p8 p9 yP;go_region_held3 (fun w'=>w'.cell? ⟨w.heap.size,0,none⟩=some (.int .i64 x.st.1)/\w'.cell? ⟨w.heap.size,1,none⟩=some (.int .i64 x.st.2)/\w'.cell? ⟨w.heap.size,6,none⟩=some (.bool x.dir)/\w'.cell? ⟨w.heap.size,7,none⟩=some (.int .i64 x.par.1)/\w'.cell? ⟨w.heap.size,8,none⟩=some (.int .i64 x.par.2)/\w'.cell? ⟨w.heap.size,9,none⟩=some (.string (bs x.nm)))
  (exact KP.cells (by repeat (with_reducible first|exact HK.o|apply KP.drew|apply KP.set)))
  (first|fail)
 rename_i dW;clear dW q4 q5 q6 q7 q8 q9 f4 f5 f6 f7 f8 f9;have lM:KP w.heap.size x ((((((w2.setCell ⟨w.heap.size+1,4,none⟩ (.int .i64 x.st.1)).setCell ⟨w.heap.size+1,5,none⟩ (.int .i64 x.st.2)).setCell ⟨w.heap.size+1,6,none⟩ (.bool x.dir)).setCell ⟨w.heap.size+1,7,none⟩ (.int .i64 x.par.1)).setCell ⟨w.heap.size+1,8,none⟩ (.int .i64 x.par.2)).setCell ⟨w.heap.size+1,9,none⟩ (.string (bs x.nm))).drew:=by repeat (with_reducible first|exact HK.o|apply KP.drew|apply KP.set)
 have Rb:Blk ((((((w2.setCell ⟨w.heap.size+1,4,none⟩ (.int .i64 x.st.1)).setCell ⟨w.heap.size+1,5,none⟩ (.int .i64 x.st.2)).setCell ⟨w.heap.size+1,6,none⟩ (.bool x.dir)).setCell ⟨w.heap.size+1,7,none⟩ (.int .i64 x.par.1)).setCell ⟨w.heap.size+1,8,none⟩ (.int .i64 x.par.2)).setCell ⟨w.heap.size+1,9,none⟩ (.string (bs x.nm))).drew (w.heap.size+1) 32 (oc ⟨x.st,x.seq,x.kind,x.st,x.dir,x.par,x.nm,[]⟩).toArray:=by
  refine Blk.drew ?_;have:=Blk.set_ (Blk.set_ (Blk.set_ (Blk.set_ (Blk.set_ (Blk.set_ eG.o 4 (.int .i64 x.st.1)) 5 (.int .i64 x.st.2)) 6 (.bool x.dir)) 7 (.int .i64 x.par.1)) 8 (.int .i64 x.par.2)) 9 (.string (bs x.nm));simpa [oc,iG] using this
 have di:Below w.heap.size w ((((((w2.setCell ⟨w.heap.size+1,4,none⟩ (.int .i64 x.st.1)).setCell ⟨w.heap.size+1,5,none⟩ (.int .i64 x.st.2)).setCell ⟨w.heap.size+1,6,none⟩ (.bool x.dir)).setCell ⟨w.heap.size+1,7,none⟩ (.int .i64 x.par.1)).setCell ⟨w.heap.size+1,8,none⟩ (.int .i64 x.par.2)).setCell ⟨w.heap.size+1,9,none⟩ (.string (bs x.nm))).drew:=
  ((((((HB.o.setCell (p:=⟨w.heap.size+1,4,none⟩) (bC _) _).setCell (p:=⟨w.heap.size+1,5,none⟩) (bC _) _).setCell (p:=⟨w.heap.size+1,6,none⟩) (bC _) _).setCell (p:=⟨w.heap.size+1,7,none⟩) (bC _) _).setCell (p:=⟨w.heap.size+1,8,none⟩) (bC _) _).setCell (p:=⟨w.heap.size+1,9,none⟩) (bC _) _).drew
 generalize ((((((w2.setCell ⟨w.heap.size+1,4,none⟩ (.int .i64 x.st.1)).setCell ⟨w.heap.size+1,5,none⟩ (.int .i64 x.st.2)).setCell ⟨w.heap.size+1,6,none⟩ (.bool x.dir)).setCell ⟨w.heap.size+1,7,none⟩ (.int .i64 x.par.1)).setCell ⟨w.heap.size+1,8,none⟩ (.int .i64 x.par.2)).setCell ⟨w.heap.size+1,9,none⟩ (.string (bs x.nm))).drew=w3 at*;have Rc:KP w.heap.size x (w3.setCell ⟨w.heap.size+1,10,none⟩ (.string (bs x.mf))):=lM.set 10 _;have hb4:Below w.heap.size w (w3.setCell ⟨w.heap.size+1,10,none⟩ (.string (bs x.mf))):=di.setCell (p:=⟨w.heap.size+1,10,none⟩) (bC _) _;have hW4:Blk (w3.setCell ⟨w.heap.size+1,10,none⟩ (.string (bs x.mf))) (w.heap.size+1) 32 (oc ⟨x.st,x.seq,x.kind,x.st,x.dir,x.par,x.nm,x.mf⟩).toArray:=by
  have:=Blk.set_ Rb 10 (.string (bs x.mf));simpa [oc] using this
 have f10:=Rb.frozen 10;have ZL:decide ((x.mf.length:Int)<=600)=decide (x.mf.length<=600):=decide_eq_decide.2 (by omega);have HD:=dH ZL;obtain ⟨d,hd⟩:=dB x.dir;simp only [<-hd] at he;clear ZL HK eG HW HB;cases d with
 |true=>
  obtain ⟨p0,p1,p2,p3,p4,p5,p6,p7,p8,p9,yP⟩:=eO lM.blk;obtain ⟨q0,q1,q2,q3,q4,q5,q6,q7,q8,q9,BN⟩:=eO Rb;simp only [<-hd] at p6 q6;simp only [Ko] at BN;simp only [if_true,Ko] at he;have dw:=dH di;have HP:=dH (qF x.par w3);clear lM Rb di Rc hW4 hb4 f10 hd;cases b with
  |false=>
   go_wp2_with fail;go_ret;exact ⟨rfl,dw.o⟩
  |true=>
   cases hpl:nB x.par with
   |false=>
    rw [hpl] at HP;have Be:=dH hpl;clear hpl;go_wp2_with fail;refine HP.o.mono ?_;rintro e w5 ⟨rfl,eu⟩;have fk:=dF dw eu;clear eu;go_wp2_with fail;go_ret;exact ⟨by rw [Be.o];rfl,fk.o⟩
   |true=>
    rw [hpl] at HP;have Be:=dH hpl;clear hpl;go_wp2_with fail;refine HP.o.mono ?_;rintro e w5 ⟨rfl,eu⟩;have p4':=dP eu (dn p4) p4;have p5':=dP eu (dn p5) p5;have p7':=dP eu (dn p7) p7;have p8':=dP eu (dn p8) p8;have ZK:=dP eu (dn yP) yP;have fk:=dF dw eu;clear eu;cases bn with
    |true=>
     go_wp2_with fail;go_ret;exact ⟨by rw [Be.o];rfl,fk.o⟩
    |false=>
     go_wp2_with fail;go_ret;exact ⟨by rw [Be.o,<-HD.o];rfl,fk.o⟩
 |false=>
  have z4:=dH (eO Rc.blk);obtain ⟨p0,p1,p2,p3,p4,p5,p6,p7,p8,p9,yP⟩:=eO lM.blk;obtain ⟨q0,q1,q2,q3,q4,q5,q6,q7,q8,q9,BN⟩:=eO Rb;simp only [<-hd] at p6 q6;simp only [bR,if_false] at he;have dw:=dH hb4;have HP:=dH (qF x.par (w3.setCell ⟨w.heap.size+1,10,none⟩ (.string (bs x.mf))));clear lM Rb di Rc hW4 hb4 hd;cases b with
  |false=>
   go_wp2_with fail;go_ret;exact ⟨rfl,dw.o⟩
  |true=>
   cases hpl:nB x.par with
   |false=>
    rw [hpl] at HP;have Be:=dH hpl;clear hpl;go_wp2_with fail;refine HP.o.mono ?_;rintro e w5 ⟨rfl,eu⟩;have fk:=dF dw eu;clear eu;go_wp2_with fail;go_ret;exact ⟨by rw [Be.o];rfl,fk.o⟩
   |true=>
    rw [hpl] at HP;have Be:=dH hpl;clear hpl;go_wp2_with fail;refine HP.o.mono ?_;rintro e w5 ⟨rfl,eu⟩;obtain ⟨-,-,-,-,p4w,p5w,-,p7w,p8w,-,WY⟩:=z4.o;have p4':=dP eu (dn p4w) p4w;have p5':=dP eu (dn p5w) p5w;have p7':=dP eu (dn p7w) p7w;have p8':=dP eu (dn p8w) p8w;have ZK:=dP eu (dn WY) WY;clear p4w p5w p7w p8w WY p0 p1 p2 p3 p4 p5 p6 p7 p8 p9 yP q0 q1 q2 q3 q4 q5 q6 q7 q8 q9 BN f10;have fk:=dF dw eu;clear eu;cases bn with
    |true=>
     go_wp2_with fail;go_ret;exact ⟨by rw [Be.o];rfl,fk.o⟩
    |false=>
     go_wp2_with fail;go_ret;exact ⟨by rw [Be.o,<-HD.o];rfl,fk.o⟩
theorem Qe (x:dV) (h1:x.kind≠1) (h2:x.kind≠2) (h3:x.kind≠3) (h4:x.kind≠4) (w:World):Calls prog 33 #[ov x] w (dJ w (.bool false)):=by
 obtain ⟨fq,eY,hb⟩:=r8 x (iG x) w;obtain ⟨p0,p1,p2,p3,p4,p5,p6,p7,p8,p9,yP⟩:=eO fq;obtain ⟨w2,eV⟩:=dB ((w.alloc (.cells (oc x).toArray 32)).alloc (.cells (oc (iG x)).toArray 32));rw [<-eV] at fq eY hb p0 p1 p2 p3 p4 p5 p6 p7 p8 p9 yP;have k1:(x.kind ==1)=false:=by rw [beq_eq_false_iff_ne];exact h1
 have k2:(x.kind ==2)=false:=by rw [beq_eq_false_iff_ne];exact h2
 have k3:(x.kind ==3)=false:=by rw [beq_eq_false_iff_ne];exact h3
 have k4:(x.kind ==4)=false:=by rw [beq_eq_false_iff_ne];exact h4
 unfold oc iG at eV;have Ko:(bs []:ByteArray)= ⟨#[]⟩:=rfl;simp only [Ko] at eV;have HW:=dH eV;have HB:=dH hb;clear eV hb fq eY h1 h2 h3 h4;unfold ov;go_enter func33,ntmps33;go_wp2_with fail;rw [<-HW.o];go_ret;exact ⟨rfl,HB.o⟩
theorem FI (x:dV) (hm:x.mf.length<=9223372036854775807) (w:World):Calls prog 33 #[ov x] w (dJ w (.bool (shapedB x))):=by
 unfold shapedB;by_cases h1:x.kind=1
 ·rw [if_pos h1];exact Qd x h1 hm w
 rw [if_neg h1];by_cases h2:x.kind=2
 ·rw [if_pos h2];exact Qc x h2 w
 rw [if_neg h2];by_cases h3:x.kind=3
 ·rw [if_pos h3];exact Qb x h3 hm w
 rw [if_neg h3];by_cases h4:x.kind=4
 ·rw [if_pos h4];exact Qa x h4 w
 rw [if_neg h4];exact Qe x h1 h2 h3 h4 w
def seqB (x:dV):Bool:=decide (x.seq < 1) || decide (x.seq > 1099511627776)
def Ad (x:dV):Bool:=(decide (x.kind=1) || decide (x.kind=2)) && !rightN x.nm
def r9 (x:dV):Int:=if !rightS x.st || seqB x then 20 else if Ad x then 23 else if !shapedB x then 22 else 0
theorem jL (x:dV) (hn:x.nm.length<=9223372036854775807) (hm:x.mf.length<=9223372036854775807) (w:World):Calls prog 8 #[ov x] w (dJ w (.int .i64 (r9 x))):=by
 have fq:=Blk.new w 32 (oc x).toArray;have hb:=(aC w.heap.size w).alloc (aB _) (.cells (oc x).toArray 32);obtain ⟨p0,p1,p2,p3,p4,p5,p6,p7,p8,p9,yP⟩:=eO fq;obtain ⟨w2,eV⟩:=dB (w.alloc (.cells (oc x).toArray 32));rw [<-eV] at fq hb p0 p1 p2 p3 p4 p5 p6 p7 p8 p9 yP;have eH:=dH fq;have yH:dG (r9 x=if !rightS x.st || seqB x then 20 else if Ad x then 23 else if !shapedB x then 22 else 0):=rfl;have HS:=dH (ku x.st w2);unfold oc at eV;have HW:=dH eV;have HB:=dH hb;clear eV hb fq;obtain ⟨rc,hrc⟩:=dB (r9 x);rw [<-hrc];rw [<-hrc] at yH;unfold ov;clear hrc;cases hst:rightS x.st with
 |false=>
  rw [hst] at HS yH;simp only [bR,if_false] at HS;clear hst;go_enter func8,ntmps8;go_wp2_with fail;rw [<-HW.o];refine HS.o.mono ?_;rintro e w3 ⟨rfl,di⟩;have dw:=dF HB di;clear di;go_wp2_with fail;go_ret;exact ⟨by rw [yH.o];rfl,dw.o⟩
 |true=>
  rw [hst] at HS yH;simp only [if_true] at HS;clear hst;by_cases yK:seqB x=true
  ·rw [yK] at yH
   have hh:decide (x.seq < 1)=true\/(decide (x.seq < 1)=false/\decide (x.seq > 1099511627776)=true):=by
    unfold seqB at yK;cases h1:decide (x.seq < 1)
    ·rw [h1] at yK;exact Or.inr ⟨rfl,by simpa using yK⟩
    ·exact Or.inl rfl
   clear yK;rcases hh with h1| ⟨h1,h2⟩
   ·go_enter func8,ntmps8
    go_wp2_with fail;rw [<-HW.o];refine HS.o.mono ?_;rintro e w3 ⟨rfl,di⟩;have p2':=dP di (dn p2) p2;have dw:=dF HB di;clear di;go_wp2_with fail;go_ret;exact ⟨by rw [yH.o];rfl,dw.o⟩
   ·go_enter func8,ntmps8
    go_wp2_with fail;rw [<-HW.o];refine HS.o.mono ?_;rintro e w3 ⟨rfl,di⟩;have p2':=dP di (dn p2) p2;have dw:=dF HB di;clear di;go_wp2_with fail;go_ret;exact ⟨by rw [yH.o];rfl,dw.o⟩
  ·have Du:seqB x=false:=by simpa using yK
   rw [Du] at yH;have h1:decide (x.seq < 1)=false:=by unfold seqB at Du;simp only [Bool.or_eq_false_iff] at Du;exact Du.1
   have h2:decide (x.seq > 1099511627776)=false:=by unfold seqB at Du;simp only [Bool.or_eq_false_iff] at Du;exact Du.2
   clear yK Du;have HN:=fun w3=>dH (oS x.nm hn w3)
   have BD:=fun w3=>dH (FI x hm w3)
   obtain ⟨nb,hnb⟩:=dB (Ad x);obtain ⟨sb,hsb⟩:=dB (shapedB x);simp only [<-hsb] at BD;rw [<-hnb,<-hsb] at yH;unfold ov at BD;clear hn hm hsb;have HNb:=dH hnb;clear hnb;have fin:∀(v:Bool),True:=fun _=>trivial
   clear fin;by_cases hk:x.kind=1\/x.kind=2
   ·obtain ⟨ri,hri⟩:=dB (lV x.nm)
    have ZM:(ri ==0)= !nb:=by
     rw [hri,HNb.o];unfold Ad;have:(decide (x.kind=1) || decide (x.kind=2))=true:=by simpa using hk
     rw [this,Bool.true_and];cases h:rightN x.nm
     ·rw [ni h];rfl
     ·rw [mA h];rfl
    simp only [<-hri] at HN;clear hri HNb;have kk:(x.kind ==1)=true\/((x.kind ==1)=false/\(x.kind ==2)=true):=by
     rcases hk with h|h
     ·exact Or.inl (by rw [beq_iff_eq];exact h)
     ·exact Or.inr ⟨by rw [beq_eq_false_iff_ne];omega,by rw [beq_iff_eq];exact h⟩
    clear hk;cases nb with
    |true=>
     simp only [Bool.not_true] at ZM;rcases kk with k1| ⟨k1,k2⟩
     all_goals
      go_enter func8,ntmps8;go_wp2_with fail;rw [<-HW.o];refine HS.o.mono ?_;rintro e w3 ⟨rfl,di⟩;have p2':=dP di (dn p2) p2;have p3':=dP di (dn p3) p3;have p9':=dP di (dn p9) p9;have dw:=dF HB di;clear di;go_wp2_with fail;refine (HN w3).o.mono ?_;rintro e w4 ⟨rfl,hb4⟩;have fD:=dF dw hb4;clear hb4;go_wp2_with fail;go_ret;exact ⟨by rw [yH.o];rfl,fD.o⟩
    |false=>
     simp only [Bool.not_false] at ZM;rcases kk with k1| ⟨k1,k2⟩
     all_goals
      go_enter func8,ntmps8;go_wp2_with fail;rw [<-HW.o];refine HS.o.mono ?_;rintro e w3 ⟨rfl,di⟩;have p2':=dP di (dn p2) p2;have p3':=dP di (dn p3) p3;have p9':=dP di (dn p9) p9;have dw:=dF HB di;have OL:=dH (Blk.below eH.o di eH.o.lt);clear di;go_wp2_with fail;refine (HN w3).o.mono ?_;rintro e w4 ⟨rfl,hb4⟩;obtain ⟨s0,s1,s2,s3,s4,s5,s6,s7,s8,s9,KW⟩:=eO (Blk.below OL.o hb4 OL.o.lt);have fD:=dF dw hb4;clear hb4;go_wp2_with fail;refine (BD w4).o.mono ?_;rintro e w5 ⟨rfl,eu⟩;have fk:=dF fD eu;clear eu;cases sb with
      |true=>
       go_wp2_with fail;go_ret;exact ⟨by rw [yH.o];rfl,fk.o⟩
      |false=>
       go_wp2_with fail;go_ret;exact ⟨by rw [yH.o];rfl,fk.o⟩
   ·have hnf:nb=false:=by
     rw [HNb.o];unfold Ad;have:(decide (x.kind=1) || decide (x.kind=2))=false:=by simpa using hk
     rw [this,Bool.false_and]
    subst hnf;have k1:(x.kind ==1)=false:=by rw [beq_eq_false_iff_ne];exact fun h=>hk (Or.inl h)
    have k2:(x.kind ==2)=false:=by rw [beq_eq_false_iff_ne];exact fun h=>hk (Or.inr h)
    clear hk HN HNb;go_enter func8,ntmps8;go_wp2_with fail;rw [<-HW.o];refine HS.o.mono ?_;rintro e w3 ⟨rfl,di⟩;obtain ⟨s0,s1,s2,s3,s4,s5,s6,s7,s8,s9,KW⟩:=eO (Blk.below eH.o di eH.o.lt);have dw:=dF HB di;clear di;go_wp2_with fail;refine (BD w3).o.mono ?_;rintro e w5 ⟨rfl,eu⟩;have fk:=dF dw eu;clear eu;cases sb with
    |true=>
     go_wp2_with fail;go_ret;exact ⟨by rw [yH.o];rfl,fk.o⟩
    |false=>
     go_wp2_with fail;go_ret;exact ⟨by rw [yH.o];rfl,fk.o⟩
end
end Go.Proofs.YtgdaahffmcfhpaaGreatDoor
