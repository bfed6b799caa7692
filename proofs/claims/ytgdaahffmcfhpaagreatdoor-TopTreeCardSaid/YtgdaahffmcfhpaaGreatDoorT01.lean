/- Lemmas on the way: Words Bs YPlain YA YB YC Maps Ms PShA. -/
import Derived.WalkKit
import Derived.WalkSpells
import Derived.WalkLawsBesides
import Derived.Lib.Hide
import Derived.Deep.Slices
import Derived.Laws.OwnMore
import Derived.Deep.AppendLies
import Derived.BigQuiet
import Derived.Laws.BitsAllLaws
import Derived.Laws.Entries
import Derived.Test.YtgdaahffmcfhpaaGreatDoorProg
import Derived.Defers
import Derived.Laws.Pointers
import Derived.Laws.LoneSync
import Derived.RegionTactic
import Derived.RegionCalls
import Derived.ChangeAlike
import Derived.MapKept
import Derived.Carry
import Derived.Test.YtgdaahffmcfhpaaGreatDoorT00
set_option linter.unusedVariables false
set_option linter.unusedSimpArgs false
set_option maxRecDepth 100000
set_option maxHeartbeats 8000000
namespace Go.Proofs.YtgdaahffmcfhpaaGreatDoor
open Tryz
section
open Go.RowKit
theorem GS {k:IntKind} {a b:Int} (h:a=b):Ending.returned (.int k a)=.returned (.int k b):=by rw [h]
theorem Bl {a b:Bool} (h:a=b):Ending.returned (.bool a)=.returned (.bool b):=by rw [h]
theorem pV (a:Addr) (i j:Nat):(a.add i).add j=a.add (i+j):=by
 unfold Addr.add;by_cases hi:i=0 <;> by_cases hj:j=0 <;> simp [hi,hj,bh]
def Blk (w:World) (g:Nat) (t:TypeId) (cs:Array Value):Prop:=w.heap[g]? =some (.cells cs t (0,0))
section
variable {w w':World} {g:Nat} {t:TypeId} {cs:Array Value}
theorem Blk.lt (h:Blk w g t cs):g < w.heap.size:=by
 rcases aG g w.heap.size with hlt|hge
 ·exact hlt
 ·unfold Blk at h;rw [ak hge] at h;cases h
theorem Blk.cell (h:Blk w g t cs) (i:Nat):w.cell? ⟨g,i,none⟩=cs[i]?:=cell_of_row w g i cs t (0,0) h
theorem Blk.frozen (h:Blk w g t cs) (i:Nat):w.frozen? ⟨g,i,none⟩=false:=by
 unfold Blk at h;simp [World.frozen?,h]
theorem Blk.new (w:World) (t:TypeId) (cs:Array Value):Blk (w.alloc (.cells cs t)) w.heap.size t cs:=heap_alloc_new w _
theorem Blk.drew (h:Blk w g t cs):Blk w.drew g t cs:=h
theorem Blk.drewN (h:Blk w g t cs) (n:Nat):Blk (w.drewN n) g t cs:=h
theorem Blk.alloc (h:Blk w g t cs) (o:Obj):Blk (w.alloc o) g t cs:=(bE w o g h.lt).trans h
theorem Blk.set_ (h:Blk w g t cs) (i:Nat) (u:Value):Blk (w.setCell ⟨g,i,none⟩ u) g t (cs.setIfInBounds i u):=by
 unfold Blk at h ⊢;simp [World.setCell,Array.getElem?_modify,h]
theorem Blk.far (h:Blk w g t cs) {p:Addr} (hp:g≠p.block) (u:Value):Blk (w.setCell p u) g t cs:=(bx w p u g hp).trans h
theorem Blk.below {B:Nat} (h:Blk w g t cs) (hb:Below B w w') (hg:g < B):Blk w' g t cs:=(hb.block g hg).trans h
theorem Blk.grown {row:Option Nat} (h:Blk w g t cs) (hb:w.grownBy w' row) (hg:some g≠row):Blk w' g t cs:=(hb.block g h.lt hg).trans h
end
structure Sl {α:Type} (w:World) (size:Nat) (R:List Value->α->Prop) (A:Option Addr) (n c:Nat) (xs:List α):Prop where
 len:xs.length=n
 le:n<=c
 max:c<=9223372036854775807
 get:∀i (h:i < xs.length),∃b off cs,A=some ⟨b,off,none⟩/\b < w.heap.size/\cs.length=size/\R cs xs[i]/\∀j u,cs[j]? =some u->w.cell? ⟨b,off+i*size+j,none⟩=some u
section
variable {α:Type} {w w':World} {size n c:Nat} {R:List Value->α->Prop} {A:Option Addr} {xs:List α}
theorem Sl.below (h:Sl w size R A n c xs) (hb:Below w.heap.size w w'):Sl w' size R A n c xs:=
 ⟨h.1,h.2,h.3,fun i hi=>by
  obtain ⟨b,off,cs,e,hlt,hl,hR,hc⟩:=h.4 i hi;exact ⟨b,off,cs,e,aN hlt hb.size,hl,hR,fun j u hu=>(hb.cell hlt).trans (hc j u hu)⟩⟩
theorem Sl.nil_:Sl w size R none 0 0 ([]:List α):=⟨rfl,aB _,by omega,fun i hi=>absurd hi (by simp)⟩
end
def nU (x:Int):Prop:=-9223372036854775808<=x/\x<=9223372036854775807
def ES (cs:List Value) (x:Int):Prop:=cs=[.int .i64 x]/\nU x
def Kw (cs:List Value) (x:Int×Int):Prop:=cs=[.int .i64 x.1,.int .i64 x.2]/\nU x.1/\nU x.2
theorem dx (w:World) (r:Option Nat):w.grownBy w r:=⟨rfl,rfl,rfl,aB _,fun _ _ _=>rfl⟩
theorem fT {a b c:World} {r:Option Nat} (h:a.grownBy b r) (k:b.grownBy c r):a.grownBy c r:=
 ⟨k.os.trans h.os,k.tape.trans h.tape,k.output.trans h.output,aK h.size k.size,fun i hi hn=>(k.block i (aN hi h.size) hn).trans (h.block i hi hn)⟩
theorem jv {a w:World} {r:Option Nat} (h:a.grownBy w r):a.grownBy w.drew r:=⟨h.os,h.tape,h.output,h.size,h.block⟩
theorem lu {a w:World} {r:Option Nat} (h:a.grownBy w r) (n:Nat):a.grownBy (w.drewN n) r:=⟨h.os,h.tape,h.output,h.size,h.block⟩
theorem Bo {a w:World} {r:Option Nat} (h:a.grownBy w r) (o:Obj):a.grownBy (w.alloc o) r:=
 ⟨h.os,h.tape,h.output,aK h.size (by simp),fun i hi hne=>(bE w o i (aN hi h.size)).trans (h.block i hi hne)⟩
theorem dh {a w:World} {g:Nat} (h:a.grownBy w (some g)) {p:Addr} (hp:p.block=g\/a.heap.size<=p.block) (u:Value):a.grownBy (w.setCell p u) (some g):=
 ⟨h.os,h.tape,h.output,by simpa [World.setCell] using h.size,fun i hi hne=>(bx w p u i (by
  rintro rfl;rcases hp with hp|hp
  ·exact hne (by rw [hp])
  ·omega)).trans (h.block i hi hne)⟩
theorem qW {a w w1:World} {r:Option Nat} (h:a.grownBy w r) (hb:Below w.heap.size w w1):a.grownBy w1 r:=
 ⟨hb.os.trans h.os,hb.tape.trans h.tape,hb.output.trans h.output,aK h.size hb.size,fun i hi hn=>(hb.block i (aN hi h.size)).trans (h.block i hi hn)⟩
theorem ef {B g:Nat} {w0 w w':World} (h:Below B w0 w) (hg:w.grownBy w' (some g)) (hB:B<=g) (hs:B<=w.heap.size):Below B w0 w':=h.grown hg hs (fun k hk=>by cases hk;exact hB)
theorem eo {w w1:World} (hb:Below w.heap.size w w1) (r:Option Nat):w.grownBy w1 r:=qW (dx w r) hb
theorem dn {w:World} {g o:Nat} {v:Value} (h:w.cell? ⟨g,o,none⟩=some v):g < w.heap.size:=by
 rcases aG g w.heap.size with hlt|hge
 ·exact hlt
 ·simp [World.cell?,ak hge] at h
theorem dP {w w1:World} (hb:Below w.heap.size w w1) {g o:Nat} {v:Value} (hg:g < w.heap.size) (h:w.cell? ⟨g,o,none⟩=some v):w1.cell? ⟨g,o,none⟩=some v:=(hb.cell (p:=⟨g,o,none⟩) hg).trans h
structure dm (W:World) where
 wd:World
 below:Below W.heap.size W wd
instance (W:World):Nonempty (dm W):=⟨⟨W,aC _ _⟩⟩
theorem eD {P:Program} {id:Nat} {Q:Exit->Act->World->Prop} {a:Act} {w:World} {l:List Oper} (hm:P.follows .mixedOrders=true) (hB:Region.lexB .any l.toArray=true)
  (h:wpQuiet P l.toArray (fun w'=>∃x:dm w,w'=x.wd) (fun a'=>∀w',(∃x:dm w,w'=x.wd)->Q .normal a' w') l a):(Code.region id l.toArray true).wp P Q a w:=
 wp_region_quiet (C:=fun w'=>∃x:dm w,w'=x.wd) hm hB ⟨⟨_,(aC _ _).drew⟩,rfl⟩ (by simpa using h)
theorem fU {P:Program} {f:FuncId} {args:Array Value} {W:World} {x:dm W} {v:Value} (h:Calls P f args x.wd fun e w'=>e=.returned v/\Below x.wd.heap.size x.wd w'):
  Calls P f args x.wd fun e w''=>e=.returned v/\∃y:dm W,w''=y.wd:=
 h.mono fun _ w' ⟨he,hb⟩=> ⟨he,⟨w',x.below.trans (hb.mono x.below.size)⟩,rfl⟩
theorem uy {P:Program} {f:FuncId} {args:Array Value} {W:World} {x:dm W} {v:Value} (h:Calls P f args x.wd fun e w'=>e=.returned v/\x.wd=w'):
  Calls P f args x.wd fun e w''=>e=.returned v/\∃y:dm W,w''=y.wd:=
 h.mono fun _ _ ⟨he,hb⟩=> ⟨he,x,hb.symm⟩
theorem dm.cell {W:World} (x:dm W) {g o:Nat} {v:Value} (h:W.cell? ⟨g,o,none⟩=some v):x.wd.cell? ⟨g,o,none⟩=some v:=dP x.below (dn h) h
end
section
def bs (l:List UInt8):ByteArray:=⟨l.toArray⟩
theorem dO (l:List UInt8):(bs l).size=l.length:=by simp [bs,ByteArray.size]
theorem dL (l:List UInt8) (i:Nat) (h:i < (bs l).size):(bs l)[i]'h=l[i]'(by rw [dO] at h;exact h):=rfl
theorem dQ (l:List UInt8):(bs l).toList=l:=ByteArray.toList_mk l
theorem iQ (l:List UInt8):(bs l).data.toList=l:=by simp [bs]
theorem SF (s:ByteArray):s=bs s.data.toList:=by simp [bs]
theorem fV (l:List UInt8) (a b:Nat):(bs l).extract a b=bs ((l.drop a).take (b - a)):=by
 rw [SF ((bs l).extract a b)];congr 1;rw [show (bs l).extract a b=(⟨l.toArray⟩:ByteArray).extract a b from rfl];simp [List.extract_eq_take_drop]
theorem dM (a b:List UInt8):bs a++bs b=bs (a++b):=by
 rw [SF (bs a++bs b)];simp [bs]
end
namespace Cr
def tick (x:Nat):Nat:=x / 2 ^^^ x % 2*3988292384
def ticks:Nat->Nat->Nat
 |0,x=>x
 |n+1,x=>tick (ticks n x)
def lP (x:Nat):Nat:=ticks 8 x
def upd (x b:Nat):Nat:=x / 256 ^^^ lP (x % 256 ^^^ b)
theorem Pc {x:Nat} (h:x < 4294967296):tick x < 4294967296:=by
 unfold tick;refine Nat.xor_lt_two_pow (n:=32) (by omega) ?_;have:x % 2<=1:=by omega
 have:=bA 3988292384 this;omega
theorem uz {x:Nat} (h:x < 4294967296):∀n,ticks n x < 4294967296
 |0=>h
 |n+1=>Pc (uz h n)
theorem Bp {x:Nat} (h:x < 4294967296):lP x < 4294967296:=uz h 8
theorem Kx (x y:Nat):(x ^^^ y) / 2=x / 2 ^^^ y / 2:=by
 have:=@Nat.shiftRight_xor_distrib 1 x y;simpa [Nat.shiftRight_eq_div_pow] using this
theorem Ky (x y:Nat):(x ^^^ y) % 2=(x % 2 ^^^ y % 2):=by
 have:=@Nat.xor_mod_two_pow x y 1;simpa using this
theorem Kz (x y:Nat):tick (x ^^^ y)=tick x ^^^ tick y:=by
 unfold tick;rw [Kx,Ky];have e:(x % 2 ^^^ y % 2)*3988292384=(x % 2*3988292384) ^^^ (y % 2*3988292384):=by
  rcases Nat.mod_two_eq_zero_or_one x with hx|hx <;> rcases Nat.mod_two_eq_zero_or_one y with hy|hy <;> simp [hx,hy]
 rw [e]
 ac_rfl
theorem yQ (x y:Nat):∀n,ticks n (x ^^^ y)=ticks n x ^^^ ticks n y
 |0=>rfl
 |n+1=>by simp only [ticks];rw [yQ x y n,Kz]
theorem IJ (x:Nat):tick (2*x)=x:=by simp [tick]
theorem Bq (x:Nat):∀n,ticks n (2 ^ n*x)=x
 |0=>by simp [ticks]
 |n+1=>by
  have:ticks n (2 ^ (n+1)*x)=2*x:=by
   have:=Bq (2*x) n
   rwa [show 2 ^ n*(2*x)=2 ^ (n+1)*x from by rw [Nat.pow_succ,Nat.mul_assoc]] at this
  simp only [ticks];rw [this,IJ]
theorem IK (x:Nat):x=(256*(x / 256)) ^^^ (x % 256):=by
 have h:=Nat.two_pow_add_eq_or_of_lt (i:=8) (b:=x % 256) (by omega) (x / 256);have h1:256*(x / 256)+x % 256=x:=by omega
 have h2:(2 ^ 8*(x / 256)) ||| (x % 256)=(2 ^ 8*(x / 256)) ^^^ (x % 256):=by
  apply Nat.eq_of_testBit_eq;intro i;rw [Nat.testBit_or,Nat.testBit_xor];by_cases hi:i < 8
  ·have:(2 ^ 8*(x / 256)).testBit i=false:=by
    rw [Nat.testBit_two_pow_mul];simp;omega
   simp [this]
  ·have:(x % 256).testBit i=false:=Nat.testBit_lt_two_pow (aN (by omega:x % 256 < 2 ^ 8) (Nat.pow_le_pow_right (by decide) (by omega)))
   simp [this]
 rw [h2] at h;simpa [h1] using h
theorem TT (x b:Nat):upd x b=lP (x ^^^ b):=by
 unfold upd lP
 conv=>rhs;rw [IK x]
 have:=Bq (x / 256) 8;rw [Nat.xor_assoc,yQ (256*(x / 256)),show 256*(x / 256)=2 ^ 8*(x / 256) from rfl,this]
def lz (x:Nat) (l:List UInt8):Nat:=l.foldl (fun x b=>lP (x ^^^ b.toNat)) x
theorem b8 (b:UInt8):b.toNat < 4294967296:=by have:=b.toNat_lt;omega
theorem qX:∀(l:List UInt8) {x:Nat},x < 4294967296->lz x l < 4294967296
 | [],_,h=>h
 |b :: l,_,h=>qX l (Bp (Nat.xor_lt_two_pow (n:=32) h (b8 b)))
theorem zk (x:Nat) (a b:List UInt8):lz x (a++b)=lz (lz x a) b:=by simp [lz,List.foldl_append]
theorem ET (x:Nat) (l:List UInt8) (k:Nat) (h:k < l.length):lz x (l.take (k+1))=lP (lz x (l.take k) ^^^ l[k].toNat):=by
 rw [bF h,zk];rfl
def XW (n:Nat) (l:List UInt8):Nat:=lz (n ^^^ 4294967295) l ^^^ 4294967295
def m32 (s:Int):Nat:=(s % 4294967296).toNat
theorem EU (s:Int):m32 s < 4294967296:=by unfold m32;omega
def GU (s:Int) (l:List UInt8):Nat:=XW (m32 s) l
def sumL (l:List UInt8):Nat:=GU 0 l
theorem zl {n:Nat} (h:n < 4294967296):n ^^^ 4294967295 < 4294967296:=Nat.xor_lt_two_pow (n:=32) h (by decide)
theorem moreL_lt (s:Int) (l:List UInt8):GU s l < 4294967296:=zl (qX l (zl (EU s)))
theorem IL {X:Nat} (h:X < 4294967296):bits .xor .u32 ((X:Int) / 2) (bits .and .u32 (X:Int) 1*3988292384 % 4294967296)=((tick X:Nat):Int):=by
 have h1:bits .and .u32 (X:Int) 1=((X % 2:Nat):Int):=by
  have:=u32_and_nat X 1 h (by decide);rw [Nat.and_one_is_mod] at this;exact this
 rw [h1];have h2:(((X % 2:Nat):Int)*3988292384) % 4294967296=((X % 2*3988292384:Nat):Int):=by omega
 rw [h2,show ((X:Int) / 2)=((X / 2:Nat):Int) from by omega];exact u32_xor_nat _ _ (by omega) (by omega)
theorem L3 {X n:Nat} (h:X < 4294967296) (hn:n < 256):bits .xor .u32 ((X:Int) / 256) ((lP n:Nat):Int)=((X / 256 ^^^ lP n:Nat):Int):=by
 rw [show ((X:Int) / 256)=((X / 256:Nat):Int) from by omega];exact u32_xor_nat _ _ (by omega) (Bp (by omega))
theorem yR {X:Nat} (h:X < 4294967296):bits .xor .u32 4294967295 (X:Int)=((X ^^^ 4294967295:Nat):Int):=by
 have:=u32_xor_nat 4294967295 X (by decide) h;rw [Nat.xor_comm] at this;exact this
end Cr
namespace Cr
open Go.RowKit
theorem disable (w:World):(callFunc 443 #[]).run prog w=.ok (.value (.tuple #[])) w:=run_call_mark0 func443 (by kernel_rfl) (by kernel_rfl) (by kernel_rfl) .disable (by kernel_rfl) w
theorem enable (w:World):(callFunc 445 #[]).run prog w=.ok (.value (.tuple #[])) w:=run_call_mark0 func445 (by kernel_rfl) (by kernel_rfl) (by kernel_rfl) .enable (by kernel_rfl) w
theorem acquire (a:Addr) (w:World):(callFunc 446 #[.pointer (some a)]).run prog w=.ok (.value (.tuple #[])) w:=run_call_marked func446 (by kernel_rfl) (by kernel_rfl) (by kernel_rfl) .acquire (by kernel_rfl) a w
theorem releaseMerge (a:Addr) (w:World):(callFunc 448 #[.pointer (some a)]).run prog w=.ok (.value (.tuple #[])) w:=run_call_marked func448 (by kernel_rfl) (by kernel_rfl) (by kernel_rfl) .releaseMerge (by kernel_rfl) a w
theorem vA (a:Addr) (x:Value) (u:FrameMode) (w:World) (hc:w.cell? a=some x) (hz:w.frozen? a=false):
  CallsD prog 434 #[.pointer (some a),.bool true] u w fun e u' w'=>u'=u/\(e=.returned (.tuple #[])/\w'=w.drew.setCell a (.int .u32 1)):=by
 have BZ:w.drew.cell? a=some x:=by go_simp
 have hz':w.drew.frozen? a=false:=by go_simp
 have hst:=run_call_store (P:=prog) func440 (by kernel_rfl) (by kernel_rfl) (by kernel_rfl) (by kernel_rfl) (k:=.u32) (y:=1) BZ hz';go_enter_d func434,ntmps434;go_wp2;go_region_calls;all_goals (go_end0;exact ⟨rfl,rfl⟩)
theorem tj (a:Addr) (u:FrameMode) (w:World) (hc:w.cell? a=some (.int .i32 1)) (hz:w.frozen? a=false):
  CallsD prog 433 #[.pointer (some a)] u w fun e u' w'=>u'=u/\(e=.returned (.tuple #[])/\w'=w.setCell a (.int .i32 0)):=by
 have hd:=disable;have he:=enable;have hr:=releaseMerge;have lF:=run_call_add (P:=prog) func449 (by kernel_rfl) (by kernel_rfl) (by kernel_rfl) .i32 (by kernel_rfl) (y:=-1) (s:=0) hc hz (by simp [go_sem];rfl);have Se:=run_convert_to_unsafe (P:=prog) (src:=515) (dst:=398) underlying515 underlying398 (by kernel_rfl) hc;go_enter_d func433,ntmps433;go_wp2;go_end0;go_wp2;go_end0;exact ⟨rfl,rfl⟩
theorem IM (a:Addr) (w:World) (hc:w.cell? a=some (.int .i32 0)) (hz:w.frozen? a=false):
  Calls prog 432 #[.pointer (some a)] w fun e w'=>e=.returned (.tuple #[])/\w'=w.setCell a (.int .i32 1):=by
 have hd:=disable;have he:=enable;have ha:=acquire;have acI:=run_call_cas_hit (P:=prog) func444 (by kernel_rfl) (by kernel_rfl) (by kernel_rfl) .i32 (by kernel_rfl) (y:=1) hc hz;have BZ:(w.setCell a (.int .i32 1)).cell? a=some (.int .i32 1):=World.cell?_setCell_same w a _ hc;have Se:=run_convert_to_unsafe (P:=prog) (src:=515) (dst:=398) underlying515 underlying398 (by kernel_rfl) BZ;go_enter func432,ntmps432;go_wp2;first|go_end0|(simp only [Exit.inBlock,Exit.then];refine bodyPost_ret (results_none rfl _ _ _) rfl ?_)|refine bodyPost_ret (results_none rfl _ _ _) rfl ?_
 go_wp2;go_end0;exact ⟨rfl,rfl⟩
def nL (d s:Int) (k i:Nat):Value:=
 if i=0 then .int .u32 d else if i=1 then .int .i32 s else if i=2 then .int .u32 0 else .int .u32 (if i < k+3 then ((lP (i - 3):Nat):Int) else 0)
def Tb (d s:Int) (k:Nat):Array Value:=Array.ofFn (n:=259) fun i=>nL d s k i
theorem vB (d s:Int) (k i:Nat) (h:i < 259):(Tb d s k)[i]? =some (nL d s k i):=by simp [Tb,h]
theorem EV {d s d' s':Int} {k k' i:Nat} {v:Value} (h:i < 259) (hv:v=nL d' s' k' i) (ho:∀j,j < 259->j≠i->nL d s k j=nL d' s' k' j):(Tb d s k).setIfInBounds i v=Tb d' s' k':=by
 have hsz:∀d s k,(Tb d s k).size=259:=fun d s k=>by simp [Tb]
 apply Array.ext_getElem?;intro j;rw [cw];by_cases e:i=j
 ·subst e
  rw [if_pos rfl,if_pos (by rw [hsz];exact h),vB _ _ _ _ h,hv]
 ·rw [if_neg e]
  rcases aG j 259 with hj|hj
  ·rw [vB _ _ _ _ hj,vB _ _ _ _ hj,ho j hj (fun h=>e h.symm)]
  ·rw [ak (by rw [hsz];exact hj),ak (by rw [hsz];exact hj)]
theorem Pd (d s d':Int) (k:Nat):(Tb d s k).setIfInBounds 0 (.int .u32 d')=Tb d' s k:=EV (by decide) (by simp [nL]) (fun j _ hn=>by simp [nL,hn])
theorem L5 (d s s':Int) (k:Nat):(Tb d s k).setIfInBounds 1 (.int .i32 s')=Tb d s' k:=EV (by decide) (by simp [nL]) (fun j _ hn=>by simp [nL,hn])
theorem Pe (d s:Int) (k:Nat) (h:k < 256):(Tb d s k).setIfInBounds (3+k) (.int .u32 ((lP k:Nat):Int))=Tb d s (k+1):=
 EV (by omega) (by simp [nL,show ¬ 3+k=0 from by omega,show ¬ 3+k=1 from by omega,show ¬ 3+k=2 from by omega,show 3+k < k+1+3 from by omega,show 3+k - 3=k from by omega]) (fun j _ hn=>by
  have e:(j < k+3)=(j < k+1+3):=by simp;omega
  unfold nL;simp only [e])
def ot (w:World) (b:Nat) (d s:Int) (k:Nat):Prop:=Blk w b 494 (Tb d s k)
section
variable {w w':World} {b:Nat} {d s:Int} {k:Nat}
theorem ot.c0 (h:ot w b d s k):w.cell? ⟨b,0,none⟩=some (.int .u32 d):=by rw [Blk.cell h,vB _ _ _ _ (by decide)];rfl
theorem ot.c1 (h:ot w b d s k):w.cell? ⟨b,1,none⟩=some (.int .i32 s):=by rw [Blk.cell h,vB _ _ _ _ (by decide)];rfl
theorem ot.step (h:ot w b d s 256) {i:Nat} (hi:i < 256):w.cell? ⟨b,3+i,none⟩=some (.int .u32 ((lP i:Nat):Int)):=by
 rw [Blk.cell h,vB _ _ _ _ (by omega)];simp [nL,show ¬ 3+i=0 from by omega,show ¬ 3+i=1 from by omega,show ¬ 3+i=2 from by omega,show 3+i < 256+3 from by omega,show 3+i - 3=i from by omega]
theorem ot.any (h:ot w b d s k) {i:Nat} (hi:i < 259):∃v,w.cell? ⟨b,i,none⟩=some v:=⟨_,(Blk.cell h i).trans (vB _ _ _ _ hi)⟩
theorem ot.lt (h:ot w b d s k):b < w.heap.size:=Blk.lt h
theorem ot.fr (h:ot w b d s k) (i:Nat):w.frozen? ⟨b,i,none⟩=false:=Blk.frozen h i
theorem ot.set0 (h:ot w b d s k) (x:Int):ot (w.setCell ⟨b,0,none⟩ (.int .u32 x)) b x s k:=by have:=Blk.set_ h 0 (.int .u32 x);rwa [Pd] at this
theorem ot.set1 (h:ot w b d s k) (x:Int):ot (w.setCell ⟨b,1,none⟩ (.int .i32 x)) b d x k:=by have:=Blk.set_ h 1 (.int .i32 x);rwa [L5] at this
theorem ot.setS (h:ot w b d s k) (hk:k < 256):ot (w.setCell ⟨b,3+k,none⟩ (.int .u32 ((lP k:Nat):Int))) b d s (k+1):=by have:=Blk.set_ h (3+k) (.int .u32 ((lP k:Nat):Int));rwa [Pe _ _ _ hk] at this
end
theorem L6 (p b:Nat) (hpb:p≠b) (w:World) (hT:ot w b 0 1 0) (hp:w.cell? ⟨p,0,none⟩=some (.pointer (some ⟨b,0,none⟩))):
  Calls prog 424 #[.pointer (some ⟨p,0,none⟩)] w fun e w'=>e=.returned (.tuple #[])/\ot w' b 0 1 256/\w.grownBy w' (some b):=by
 have hpl:=dn hp;go_enter func424,ntmps424;go_wp2_with fail;go_loopw [3] (fun i wr=>∃k:Nat,k<=256/\i=.int .i64 k/\ot wr b 0 1 k/\w.grownBy wr (some b)) (fun i _=>256 - (intOf i).toNat)
 case atStart=>exact ⟨0,by omega,rfl,hT,dx _ _⟩
 case round=>
  obtain ⟨k,hk,rfl,hTk,hg⟩:=hrel;rcases aG k 256 with hlt|hge
  ·have hp':wr.cell? ⟨p,0,none⟩=some (.pointer (some ⟨b,0,none⟩)):=(hg.cell hp (by simpa using hpb))
   obtain ⟨v0,hv0⟩:=hTk.any (i:=3+k) (by omega);have hfr:=hTk.fr (3+k);have Jy:=dH hTk;have hG:=dH hg;obtain ⟨wo,hwo⟩:=dB wr;rw [<-hwo] at hp' hv0 hfr Jy hG ⊢;clear hTk hg hwo;go_wp2_with fail;go_loopw [2,8] (fun x j wr=>∃m:Nat,m<=8/\j=.int .i64 m/\x=.int .u32 ((ticks m k:Nat):Int)/\wr=wo) (fun _ j _=>8 - (intOf j).toNat)
   case atStart=>exact ⟨0,by omega,rfl,rfl,rfl⟩
   case round=>
    obtain ⟨m,hm,rfl,rfl,rfl⟩:=hrel;have hX:=uz (x:=k) (by omega) m;rcases aG m 8 with hml|Kn
    ·have mN:=dH (IL hX)
     have hnext:tick (ticks m k)=ticks (m+1) k:=rfl;generalize ticks m k=X at*;have HN:=dH hnext;clear hnext;go_wp2_with fail;go_roundw
     case rel=>exact ⟨m+1,by omega,by go_num,by rw [mN.o,HN.o],trivial⟩
     case measure=>simp [intOf];omega
    ·obtain rfl:m=8:=by omega
     have HX:=dH hX;clear hX;go_wp2_with fail;exact ⟨⟨k+1,by omega,by go_num,Jy.o.setS hlt,dh hG.o (Or.inl rfl) _⟩,by simp [intOf];omega⟩
  ·obtain rfl:k=256:=by omega
   go_wp2_with fail;go_end0;exact ⟨rfl,hTk,hg⟩
end Cr
namespace Cr
open Go.RowKit
theorem zm (b:Nat) (d:Int) (r:Bool) (hr:(d != 0)=r) (w:World) (hc:w.cell? ⟨b,0,none⟩=some (.int .u32 d)):
  Calls prog 426 #[.pointer (some ⟨b,0,none⟩)] w fun e w'=>e=.returned (.bool r)/\w=w':=by
 subst hr;have hl:=run_call_load (P:=prog) func431 (by kernel_rfl) (by kernel_rfl) (by kernel_rfl) .u32 (by kernel_rfl) hc;go_enter func426,ntmps426;go_wp2_with fail;go_ret;exact ⟨rfl,rfl⟩
theorem L7 (p b:Nat) (hpb:p≠b) (w:World) (hT:ot w b 0 0 0) (hp:w.cell? ⟨p,0,none⟩=some (.pointer (some ⟨b,0,none⟩))):
  Calls prog 427 #[.pointer (some ⟨b,0,none⟩),.func (.func 424) #[] #[.pointer (some ⟨p,0,none⟩)]] w fun e w'=>e=.returned (.tuple #[])/\ot w' b 1 0 256/\w.grownBy w' (some b):=by
 have hc1:=hT.c1;have zX:=hT.fr 1;have YX:=hT.set1 1;have hp1:(w.setCell ⟨b,1,none⟩ (.int .i32 1)).cell? ⟨p,0,none⟩=some (.pointer (some ⟨b,0,none⟩)):=(World.cell?_setCell_other _ ⟨b,1,none⟩ ⟨p,0,none⟩ _ (fun h=>hpb (by have:=congrArg Addr.block h;simpa using this.symm))).trans hp;have hg1:w.grownBy (w.setCell ⟨b,1,none⟩ (.int .i32 1)) (some b):=dh (dx _ _) (Or.inl rfl) _;have hc0:=YX.c0;have hnot:∀(x:Bool) (w:World),(Op.unary .not (.bool x)).run prog w=.ok (.bool (!x)) w:=fun _ _=>rfl
 have Nv:=dH YX;have sS:=dH hg1;clear hT YX hg1;go_enter_defers func427,ntmps427;go_wp2_with fail;refine (IM ⟨b,1,none⟩ _ hc1 zX).mono ?_;rintro e w' ⟨rfl,rfl⟩;go_wp2_with fail;refine (zm b 0 false rfl _ hc0).mono ?_;rintro e w' ⟨rfl,rfl⟩;go_wp2_with fail;refine (L6 p b hpb _ Nv.o hp1).mono ?_;rintro e w2 ⟨rfl,PO,hg2⟩;have hg2:=fT sS.o hg2;go_wp2_with fail;have hT3:=ot.set0 (w:=w2.drew) (Blk.drew PO) 1;have hc3:=PO.c0;have Uf:=PO.fr 0;have YY:=hT3.c1;have YZ:=hT3.fr 1;have Ya:=hT3.set1 0;have hg3:w.grownBy _ (some b):=dh (dh (jv hg2) (p:=⟨b,0,none⟩) (Or.inl rfl) (.int .u32 1)) (p:=⟨b,1,none⟩) (Or.inl rfl) (.int .i32 0);refine leaves_cons (f:=434) (args:=#[.pointer (some ⟨b,0,none⟩),.bool true]) (by simp) (by simp [go_sem]) ?_;refine (vA ⟨b,0,none⟩ _ .returning _ hc3 Uf).mono ?_;rintro e u' w'' ⟨rfl,rfl,rfl⟩;refine leaves_cons (f:=433) (args:=#[.pointer (some ⟨b,1,none⟩)]) (by simp [settle]) (by simp [go_sem]) ?_;refine (tj ⟨b,1,none⟩ _ _ YY YZ).mono ?_;rintro e u' w'' ⟨rfl,rfl,rfl⟩;simp [Leaves,settle,results,results427];exact ⟨Ya,hg3⟩
theorem L8 (p b:Nat) (hpb:p≠b) (w:World) (hT:ot w b 0 0 0) (hp:w.cell? ⟨p,0,none⟩=some (.pointer (some ⟨b,0,none⟩))):
  Calls prog 423 #[.pointer (some ⟨b,0,none⟩),.func (.func 424) #[] #[.pointer (some ⟨p,0,none⟩)]] w fun e w'=>e=.returned (.tuple #[])/\ot w' b 1 0 256/\w.grownBy w' (some b):=by
 have hnot:∀(x:Bool) (w:World),(Op.unary .not (.bool x)).run prog w=.ok (.bool (!x)) w:=fun _ _=>rfl
 go_enter func423,ntmps423;go_wp2_with fail;refine (zm b 0 false rfl _ hT.c0).mono ?_;rintro e w' ⟨rfl,rfl⟩;go_wp2_with fail;refine (L7 p b hpb _ hT hp).mono ?_;rintro e w2 ⟨rfl,PO,hg2⟩;go_wp2_with fail;go_end0;exact ⟨rfl,PO,hg2⟩
theorem Pf (f:Value) (b:Nat) (w:World) (hT:ot w b 1 0 256):
  Calls prog 423 #[.pointer (some ⟨b,0,none⟩),f] w fun e w'=>e=.returned (.tuple #[])/\w=w':=by
 have hnot:∀(x:Bool) (w:World),(Op.unary .not (.bool x)).run prog w=.ok (.bool (!x)) w:=fun _ _=>rfl
 go_enter func423,ntmps423;go_wp2_with fail;refine (zm b 1 true rfl _ hT.c0).mono ?_;rintro e w' ⟨rfl,rfl⟩;go_wp2_with fail;go_end0;exact ⟨rfl,rfl⟩
def Made (w:World) (b:Nat):Prop:=ot w b 0 0 0\/ot w b 1 0 256
theorem L9 (b n:Nat) (hn:n < 256) (w:World) (hT:Made w b):
  Calls prog 418 #[.pointer (some ⟨b,0,none⟩),.int .u8 n] w fun e w'=>e=.returned (.int .u32 ((lP n:Nat):Int))/\Made w' b/\w.grownBy w' (some b):=by
 have Ug:∀(fn:Fn) (first cap:Array Value) (w:World),(Instr.makeFunc fn first cap).run prog w=.ok (.func fn first cap) w:=fun _ _ _ _=>rfl
 have jY:b < w.heap.size:=by rcases hT with h|h <;> exact h.lt
 have hp:(w.alloc (.cells #[.pointer (some ⟨b,0,none⟩)] 482)).cell? ⟨w.heap.size,0,none⟩=some (.pointer (some ⟨b,0,none⟩)):=by simp
 have hg1:w.grownBy (w.alloc (.cells #[.pointer (some ⟨b,0,none⟩)] 482)) (some b):=Bo (dx _ _) _;generalize hnew:w.alloc (.cells #[.pointer (some ⟨b,0,none⟩)] 482)=w1 at*;have key:Calls prog 423 #[.pointer (some ⟨b,0,none⟩),.func (.func 424) #[] #[.pointer (some ⟨w.heap.size,0,none⟩)]] w1 fun e w'=>e=.returned (.tuple #[])/\ot w' b 1 0 256/\w1.grownBy w' (some b):=by
  subst hnew;rcases hT with h|h
  ·exact L8 w.heap.size b (by omega) _ (Blk.alloc h _) hp
  ·refine (Pf _ b _ (Blk.alloc h _)).mono ?_
   rintro e w2 ⟨rfl,rfl⟩;exact ⟨rfl,Blk.alloc h _,dx _ _⟩
 have sS:=dH hg1;clear hg1 hT;go_enter func418,ntmps418;go_wp2_with fail;refine key.mono ?_;rintro e w2 ⟨rfl,PO,hg2⟩;have hp2:=hg2.cell hp (by simp;omega);have hs2:=PO.step hn;go_wp2_with fail;go_ret;exact ⟨rfl,Or.inr PO,fT sS.o hg2⟩
end Cr
namespace Cr
open Go.RowKit
attribute [local go_sem] dO dL dQ dM
theorem zo {n:Nat} (h:n < 4294967296):wrap64 (n:Int)=(n:Int):=by unfold wrap64;omega
theorem TU (s:Int) (l:List UInt8) (hl:l.length<=9223372036854775807) (w:World):
  Calls prog 410 #[.int .i64 s,.string (bs l)] w (dJ w (.int .i64 ((GU s l:Nat):Int))):=by
 have hM:IntKind.u32.max=4294967295:=rfl;obtain ⟨zs,hzs,hz⟩:∃zs,zs=Tb 0 0 0/\∀w,(zeroValue 494).run prog w=.ok (.agg zs) w:=⟨_,rfl,fun w=>by kernel_rfl⟩;have Ws:∀zs,zs=Tb 0 0 0->Made (w.alloc (.cells zs 494)) w.heap.size:=fun zs h=>Or.inl (by rw [h];exact Blk.new w 494 _)
 have hb0:∀zs,Below w.heap.size w (w.alloc (.cells zs 494)):=fun zs=>(aC _ w).alloc (aB _) _
 have hx0:bits .xor .u32 4294967295 (s % 4294967296)=((m32 s ^^^ 4294967295:Nat):Int):=by
  have:=yR (EU s);rw [<-this];unfold m32;congr 1;omega
 have hX0:=zl (EU s);have eC:lz (m32 s ^^^ 4294967295) l ^^^ 4294967295=GU s l:=rfl;have hlt:=moreL_lt s l;generalize m32 s ^^^ 4294967295=X0 at*;have Hq:=dH hX0;have HF:=dH eC;have HL:=dH hlt;have HZ:=dH hx0;clear hX0 eC hlt hx0;have HT0:=dH Ws;have wY:=dH hb0;have Wt:=dH hzs;clear Ws hb0 hzs;go_enter func410,ntmps410;go_wp2_with fail;rw [HZ.o];go_loopw [6,15] (fun x i wr=>∃k:Nat,k<=l.length/\i=.int .i64 k/\x=.int .u32 ((lz X0 (l.take k):Nat):Int)/\Made wr w.heap.size/\Below w.heap.size w wr) (fun _ i _=>l.length - (intOf i).toNat)
 case atStart=>exact ⟨0,by omega,rfl,by simp [lz],HT0.o _ (by first|exact Wt.o|kernel_rfl),wY.o _⟩
 case round=>
  obtain ⟨k,hk,rfl,rfl,hM,hb⟩:=hrel;rcases aG k l.length with hlt|hge
  ·have hX:=qX (l.take k) Hq.o
   have Jz:=ET X0 l k hlt;have hby:=l[k].toNat_lt;rw [<-TT] at Jz;generalize lz X0 (l.take k)=X at*;have hxb:X % 256 ^^^ l[k].toNat < 256:=Nat.xor_lt_two_pow (n:=8) (by omega) hby;have h1:bits .xor .u8 ((X:Int) % 256) ((l[k].toNat:Nat):Int)=((X % 256 ^^^ l[k].toNat:Nat):Int):=by
    rw [show ((X:Int) % 256)=((X % 256:Nat):Int) from by omega];exact u8_xor_nat _ _ (by omega) hby
   have h2:=L3 hX hxb;have H1:=dH h1;have H2:=dH h2;have H3:=dH Jz;clear h1 h2 Jz;go_wp2_with fail;rw [H1.o];refine (L9 _ _ hxb _ hM).mono ?_;rintro e w2 ⟨rfl,hM2,hg2⟩;have dS:=ef hb hg2 (aB _) hb.size;have HB:=dH dS;have HM:=dH hM2;clear dS hM2 hg2 hb hM;go_wp2_with fail;go_roundw
   case rel=>exact ⟨k+1,by omega,by go_num,by rw [H2.o,H3.o];rfl,HM.o,HB.o⟩
   case measure=>simp [intOf];omega
  ·obtain rfl:k=l.length:=by omega
   have HB:=dH hb;clear hb hM;rw [bz] at*;have hX:=qX l Hq.o;have h1:=yR hX;rw [HF.o] at h1;generalize lz X0 l=X at*;have H1:=dH h1;clear h1;have hlt:=HL.o;go_wp2_with fail;rw [H1.o,zo hlt];go_ret;exact ⟨rfl,HB.o⟩
theorem sum_c (l:List UInt8) (hl:l.length<=9223372036854775807) (w:World):
  Calls prog 389 #[.string (bs l)] w (dJ w (.int .i64 ((sumL l:Nat):Int))):=by
 go_enter func389,ntmps389;go_wp2_with fail;refine (TU 0 l hl _).mono ?_;rintro e w1 ⟨rfl,dR⟩;go_wp2_with fail;go_ret;exact ⟨rfl,dR⟩
end Cr
section
open Go.RowKit
structure MapTy {K:Type} [DecidableEq K] (P:Program) (kv:K->Value) (mt kt et:TypeId) (z:Value):Prop where
 map_:P.underlying mt=some (.map kt et)
 zero:∀w,(zeroValue et).run P w=.ok z w
 eq:∀(a b:K) (w:World),(Op.equal kt (kv a) (kv b)).run P w=.ok (decide (a=b)) w
 check:∀(e:Bool) (a:K) (w:World),(Instr.checkKey e 10000 kt (kv a)).run P w=.ok () w
 wide:∃d,P.underlying kt=some d/\∀a b:K,Instr.sameNow d (kv a) (kv b)=none
 bits:∀a:K,Instr.sameBits 10000 (kv a) (kv a)=true
section
variable {K:Type} [DecidableEq K] {P:Program} {kv:K->Value} {mt kt et:TypeId} {z:Value}
def jb (kv:K->Value) (e:K×Value×Nat):MapEntry:={ key:=kv e.1,val:=e.2.1,born:=e.2.2 }
def place (ms:List (K×Value×Nat)) (k:K):Option (Nat×(K×Value×Nat)):=
 match ms with
 | []=>none
 |e :: r=>if k=e.1 then some (0,e) else (place r k).map fun p=>(p.1+1,p.2)
def get (ms:List (K×Value×Nat)) (k:K):Option Value:=(place ms k).map (·.2.2.1)
theorem vC {ms:List (K×Value×Nat)} {k:K} {i:Nat} {e:K×Value×Nat} (h:place ms k=some (i,e)):ms[i]? =some e/\e.1=k:=by
 induction ms generalizing i with
 |nil=>cases h
 |cons a r ih=>
  unfold place at h;by_cases c:k=a.1
  ·rw [if_pos c] at h;cases h;exact ⟨rfl,c.symm⟩
  ·rw [if_neg c] at h
   cases hp:place r k with
   |none=>rw [hp] at h;cases h
   |some p=>
    rw [hp] at h;cases h;exact ih hp
theorem LA (M:MapTy P kv mt kt et z) (k:K) (w:World):∀(ms:List (K×Value×Nat)) (i:Nat),
  (Instr.findAsking kt (kv k) (ms.map (jb kv)) i).run P w=.ok ((place ms k).map fun p=>(i+p.1,p.2.2.1)) w
 | [],i=>rfl
 |e :: r,i=>by
  simp only [ai,Instr.findAsking,Sem.run_bind,jb,M.eq,Result.andThen_ok];unfold place;by_cases c:k=e.1
  ·simp [c]
  ·have ih:=LA M k w r (i+1)
   simp only [c,decide_false,bR,if_false];refine Eq.trans ih ?_;cases place r k with
   |none=>rfl
   |some p=>simp;omega
theorem finding (M:MapTy P kv mt kt et z) (k:K) (w:World) (ms:List (K×Value×Nat)):
  (Instr.findKey kt (kv k) (ms.map (jb kv))).run P w=.ok ((place ms k).map fun p=>(p.1,p.2.2.1)) w:=by
 obtain ⟨d,hd,hn⟩:=M.wide;have ha:=LA M k w ms 0;simp only [aY] at ha;unfold Instr.findKey;simp only [Sem.run_bind,run_underlying hd,Result.andThen_ok];cases ms with
 |nil=>simp [Instr.findNow,place]
 |cons e r=>
  have:Instr.findNow d (kv k) ((e :: r).map (jb kv)) 0=none:=by simp [Instr.findNow,jb,hn]
  rw [this];exact ha
def MapF (kv:K->Value) (w:World) (b:Nat) (f:K->Option Value):Prop:=
 ∃(ms:List (K×Value×Nat)) (clock:Nat),w.heap[b]? =some (.map (ms.map (jb kv)).toArray clock)/\(ms.map (·.2.2)).Nodup/\(∀e∈ms,e.2.2 < clock)/\∀k,get ms k=f k
theorem MapF.new (w:World):MapF kv (w.alloc (.map #[] 0)) w.heap.size (fun _=>none):=⟨[],0,heap_alloc_new w _,List.Pairwise.nil,by simp,fun _=>rfl⟩
theorem MapF.lt {w:World} {b:Nat} {f:K->Option Value} (h:MapF kv w b f):b < w.heap.size:=by
 obtain ⟨ms,c,hb,_⟩:=h;rcases aG b w.heap.size with hlt|hge
 ·exact hlt
 ·rw [ak hge] at hb;cases hb
theorem MapF.heap {w w':World} {b:Nat} {f:K->Option Value} (h:MapF kv w b f) (hb:w'.heap[b]? =w.heap[b]?):MapF kv w' b f:=by
 obtain ⟨ms,c,h1,rest⟩:=h;exact ⟨ms,c,hb.trans h1,rest⟩
theorem MapF.look (M:MapTy P kv mt kt et z) {w:World} {b:Nat} {f:K->Option Value} (h:MapF kv w b f) (k:K):
  (Instr.lookup mt (.map (some b)) (kv k) false).run P w=.ok ((f k).getD z) w:=by
 obtain ⟨ms,c,hb,_,_,hf⟩:=h;have nY:=finding M k w ms;simp only [Instr.lookup,Sem.run_bind,run_underlying M.map_,Go.MapKept.run_getObj_map hb,Sem.run_pure,Result.andThen_ok,M.check,nY];rw [<-hf k];unfold get;cases place ms k with
 |none=>simp [M.zero]
 |some p=>simp
def setAt (ms:List (K×Value×Nat)) (i:Nat) (v:Value):List (K×Value×Nat):=ms.modify i fun e=>(e.1,v,e.2.2)
theorem rW {ms:List (K×Value×Nat)} {k:K} {i:Nat} {e:K×Value×Nat} (h:place ms k=some (i,e)) (v:Value) (k':K):get (setAt ms i v) k'=if k'=k then some v else get ms k':=by
 induction ms generalizing i with
 |nil=>cases h
 |cons a r ih=>
  unfold place at h;by_cases c:k=a.1
  ·rw [if_pos c] at h;cases h
   simp only [setAt,List.modify_zero_cons,get,place];by_cases c':k'=k
   ·rw [if_pos c',if_pos (c'.trans c)];rfl
   ·rw [if_neg c',if_neg (fun h=>c' (h.trans c.symm)),if_neg (fun h=>c' (h.trans c.symm))]
  ·rw [if_neg c] at h
   cases hp:place r k with
   |none=>rw [hp] at h;cases h
   |some p=>
    rw [hp] at h;cases h;have:=ih hp;simp only [setAt,List.modify_succ_cons,get,place] at this ⊢;by_cases c':k'=a.1
    ·rw [if_pos c',if_pos c',if_neg (fun h=>c (h.symm.trans c'))]
    ·rw [if_neg c',if_neg c']
     simpa [Option.map_map,Function.comp_def] using this
theorem vD {ms:List (K×Value×Nat)} {k:K} (h:place ms k=none) (v:Value) (n:Nat) (k':K):get (ms++[(k,v,n)]) k'=if k'=k then some v else get ms k':=by
 induction ms with
 |nil=>
  simp only [get,af,place];by_cases c':k'=k <;> simp [c']
 |cons a r ih=>
  unfold place at h;by_cases c:k=a.1
  ·rw [if_pos c] at h;cases h
  ·rw [if_neg c] at h
   have hp:place r k=none:=by
    cases hp:place r k with
    |none=>rfl
    |some p=>rw [hp] at h;cases h
   have:=ih hp;simp only [get,aq,place] at this ⊢;by_cases c':k'=a.1
   ·rw [if_pos c',if_pos c',if_neg (fun h=>c (h.symm.trans c'))]
   ·rw [if_neg c',if_neg c']
    simpa [Option.map_map,Function.comp_def] using this
theorem set_obj {w:World} {b:Nat} (o:Obj) {es:Array MapEntry} {c:Nat} (hb:w.heap[b]? =some (.map es c)):∃w',(setObj b o).run P w=.ok () w'/\w'.heap[b]? =some o/\w.grownBy w' (some b)/\w'.heap.size=w.heap.size:=
 ⟨_,Go.MapKept.run_setObj_map o hb,(Go.MapKept.heap_set hb).1,⟨rfl,rfl,rfl,by simp,fun i _ hne=>(Go.MapKept.heap_set hb).2 i (fun e=>hne (by rw [e]))⟩,by simp⟩
omit [DecidableEq K] in
theorem kP (ms:List (K×Value×Nat)) (i:Nat) (v:Value):(setAt ms i v).map (·.2.2)=ms.map (·.2.2):=by
 apply List.ext_getElem?;intro j;simp only [setAt,cR,List.getElem?_modify];by_cases c:i=j
 ·subst c;cases ms[i]? <;> simp
 ·cases ms[j]? <;> simp [c]
end
end
namespace Ms
open Go.RowKit
section
variable {K:Type} [DecidableEq K] {P:Program} {kv:K->Value} {mt kt et:TypeId} {z:Value}
def jb (kv:K->Value) (e:K×Value×Nat):MapEntry:={ key:=kv e.1,val:=e.2.1,born:=e.2.2 }
def place (ms:List (K×Value×Nat)) (k:K):Option (Nat×(K×Value×Nat)):=
 match ms with
 | []=>none
 |e :: r=>if k=e.1 then some (0,e) else (place r k).map fun p=>(p.1+1,p.2)
def get (ms:List (K×Value×Nat)) (k:K):Option Value:=(place ms k).map (·.2.2.1)
theorem vC {ms:List (K×Value×Nat)} {k:K} {i:Nat} {e:K×Value×Nat} (h:place ms k=some (i,e)):ms[i]? =some e/\e.1=k:=by
 induction ms generalizing i with
 |nil=>cases h
 |cons a r ih=>
  unfold place at h;by_cases c:k=a.1
  ·rw [if_pos c] at h;cases h;exact ⟨rfl,c.symm⟩
  ·rw [if_neg c] at h
   cases hp:place r k with
   |none=>rw [hp] at h;cases h
   |some p=>
    rw [hp] at h;cases h;exact ih hp
structure MapTy {K:Type} [DecidableEq K] (P:Program) (kv:K->Value) (mt kt et:TypeId) (z:Value):Prop where
 map_:P.underlying mt=some (.map kt et)
 zero:∀w,(zeroValue et).run P w=.ok z w
 find:∀(k:K) (w:World) (ms:List (K×Value×Nat)),(Instr.findKey kt (kv k) (ms.map (jb kv))).run P w=.ok ((place ms k).map fun p=>(p.1,p.2.2.1)) w
 check:∀(e:Bool) (a:K) (w:World),(Instr.checkKey e 10000 kt (kv a)).run P w=.ok () w
 bits:∀a:K,Instr.sameBits 10000 (kv a) (kv a)=true
theorem finding (M:MapTy P kv mt kt et z) (k:K) (w:World) (ms:List (K×Value×Nat)):
  (Instr.findKey kt (kv k) (ms.map (jb kv))).run P w=.ok ((place ms k).map fun p=>(p.1,p.2.2.1)) w:=M.find k w ms
def MapF (kv:K->Value) (w:World) (b:Nat) (f:K->Option Value):Prop:=
 ∃(ms:List (K×Value×Nat)) (clock:Nat),w.heap[b]? =some (.map (ms.map (jb kv)).toArray clock)/\(ms.map (·.2.2)).Nodup/\(∀e∈ms,e.2.2 < clock)/\∀k,get ms k=f k
theorem MapF.new (w:World):MapF kv (w.alloc (.map #[] 0)) w.heap.size (fun _=>none):=⟨[],0,heap_alloc_new w _,List.Pairwise.nil,by simp,fun _=>rfl⟩
theorem MapF.lt {w:World} {b:Nat} {f:K->Option Value} (h:MapF kv w b f):b < w.heap.size:=by
 obtain ⟨ms,c,hb,_⟩:=h;rcases aG b w.heap.size with hlt|hge
 ·exact hlt
 ·rw [ak hge] at hb;cases hb
theorem MapF.heap {w w':World} {b:Nat} {f:K->Option Value} (h:MapF kv w b f) (hb:w'.heap[b]? =w.heap[b]?):MapF kv w' b f:=by
 obtain ⟨ms,c,h1,rest⟩:=h;exact ⟨ms,c,hb.trans h1,rest⟩
theorem MapF.look (M:MapTy P kv mt kt et z) {w:World} {b:Nat} {f:K->Option Value} (h:MapF kv w b f) (k:K):
  (Instr.lookup mt (.map (some b)) (kv k) false).run P w=.ok ((f k).getD z) w:=by
 obtain ⟨ms,c,hb,_,_,hf⟩:=h;have nY:=finding M k w ms;simp only [Instr.lookup,Sem.run_bind,run_underlying M.map_,Go.MapKept.run_getObj_map hb,Sem.run_pure,Result.andThen_ok,M.check,nY];rw [<-hf k];unfold get;cases place ms k with
 |none=>simp [M.zero]
 |some p=>simp
def setAt (ms:List (K×Value×Nat)) (i:Nat) (v:Value):List (K×Value×Nat):=ms.modify i fun e=>(e.1,v,e.2.2)
theorem rW {ms:List (K×Value×Nat)} {k:K} {i:Nat} {e:K×Value×Nat} (h:place ms k=some (i,e)) (v:Value) (k':K):get (setAt ms i v) k'=if k'=k then some v else get ms k':=by
 induction ms generalizing i with
 |nil=>cases h
 |cons a r ih=>
  unfold place at h;by_cases c:k=a.1
  ·rw [if_pos c] at h;cases h
   simp only [setAt,List.modify_zero_cons,get,place];by_cases c':k'=k
   ·rw [if_pos c',if_pos (c'.trans c)];rfl
   ·rw [if_neg c',if_neg (fun h=>c' (h.trans c.symm)),if_neg (fun h=>c' (h.trans c.symm))]
  ·rw [if_neg c] at h
   cases hp:place r k with
   |none=>rw [hp] at h;cases h
   |some p=>
    rw [hp] at h;cases h;have:=ih hp;simp only [setAt,List.modify_succ_cons,get,place] at this ⊢;by_cases c':k'=a.1
    ·rw [if_pos c',if_pos c',if_neg (fun h=>c (h.symm.trans c'))]
    ·rw [if_neg c',if_neg c']
     simpa [Option.map_map,Function.comp_def] using this
theorem vD {ms:List (K×Value×Nat)} {k:K} (h:place ms k=none) (v:Value) (n:Nat) (k':K):get (ms++[(k,v,n)]) k'=if k'=k then some v else get ms k':=by
 induction ms with
 |nil=>
  simp only [get,af,place];by_cases c':k'=k <;> simp [c']
 |cons a r ih=>
  unfold place at h;by_cases c:k=a.1
  ·rw [if_pos c] at h;cases h
  ·rw [if_neg c] at h
   have hp:place r k=none:=by
    cases hp:place r k with
    |none=>rfl
    |some p=>rw [hp] at h;cases h
   have:=ih hp;simp only [get,aq,place] at this ⊢;by_cases c':k'=a.1
   ·rw [if_pos c',if_pos c',if_neg (fun h=>c (h.symm.trans c'))]
   ·rw [if_neg c',if_neg c']
    simpa [Option.map_map,Function.comp_def] using this
theorem set_obj {w:World} {b:Nat} (o:Obj) {es:Array MapEntry} {c:Nat} (hb:w.heap[b]? =some (.map es c)):∃w',(setObj b o).run P w=.ok () w'/\w'.heap[b]? =some o/\w.grownBy w' (some b)/\w'.heap.size=w.heap.size:=
 ⟨_,Go.MapKept.run_setObj_map o hb,(Go.MapKept.heap_set hb).1,⟨rfl,rfl,rfl,by simp,fun i _ hne=>(Go.MapKept.heap_set hb).2 i (fun e=>hne (by rw [e]))⟩,by simp⟩
omit [DecidableEq K] in
theorem kP (ms:List (K×Value×Nat)) (i:Nat) (v:Value):(setAt ms i v).map (·.2.2)=ms.map (·.2.2):=by
 apply List.ext_getElem?;intro j;simp only [setAt,cR,List.getElem?_modify];by_cases c:i=j
 ·subst c;cases ms[i]? <;> simp
 ·cases ms[j]? <;> simp [c]
theorem MapF.update (M:MapTy P kv mt kt et z) {w:World} {b:Nat} {f:K->Option Value} (h:MapF kv w b f) (k:K) (v:Value):
  ∃w1,(Instr.mapUpdate mt (.map (some b)) (kv k) v).run P w=.ok () w1/\MapF kv w1 b (fun k'=>if k'=k then some v else f k')/\w.grownBy w1 (some b)/\w1.heap.size=w.heap.size:=by
 obtain ⟨ms,c,hb,hnd,hlt,hf⟩:=h;have nY:=finding M k w ms;cases hp:place ms k with
 |some p=>
  obtain ⟨i,e⟩:=p;obtain ⟨hi,hek⟩:=vC hp;have hmod:((ms.map (jb kv)).toArray.modify i fun x=>{ x with key:=kv k,val:=v })=((setAt ms i v).map (jb kv)).toArray:=by
   apply Array.ext_getElem?;intro j;simp only [setAt,Array.getElem?_modify,aP,cR,List.getElem?_modify];by_cases cj:i=j
   ·subst cj;simp [hi,jb,hek]
   ·simp [cj]
  obtain ⟨w1,hr,dR,hg1,hs1⟩:=set_obj (P:=P) (.map ((setAt ms i v).map (jb kv)).toArray c) hb;refine ⟨w1,?_,⟨_,c,dR,by rw [kP];exact hnd,fun x hx=>?_,fun k'=>?_⟩,hg1,hs1⟩
  ·simp only [Instr.mapUpdate,Sem.run_bind,run_underlying M.map_,Go.MapKept.run_getObj_map hb,Result.andThen_ok,M.check,nY,hp,bU]
   have h1:((ms.map (jb kv)).toArray[i]?)=some (jb kv e):=by simp [hi]
   rw [h1];simp only [bU,Option.getD_some];rw [show (jb kv e).key=kv k from by rw [<-hek];rfl];simp only [Instr.keyThatStays,M.bits,if_true,Sem.run_pure,Result.andThen_ok,hmod,hr]
  ·have:x.2.2∈(setAt ms i v).map (·.2.2):=aV.2 ⟨x,hx,rfl⟩
   rw [kP] at this;obtain ⟨y,hy,e⟩:=aV.1 this;rw [<-e];exact hlt y hy
  ·show get (setAt ms i v) k'=if k'=k then some v else f k'
   rw [rW hp,hf k']
 |none=>
  have Nw:((ms.map (jb kv)).toArray.push { key:=kv k,val:=v,born:=c })=((ms++[(k,v,c)]).map (jb kv)).toArray:=by simp [jb]
  obtain ⟨w1,hr,dR,hg1,hs1⟩:=set_obj (P:=P) (.map ((ms++[(k,v,c)]).map (jb kv)).toArray (c+1)) hb;have Uh:((ms++[(k,v,c)]).map (·.2.2)).Nodup:=by
   rw [bV];refine cS.2 ⟨hnd,by simp,?_⟩;intro a ha b hb';obtain ⟨x,hx,rfl⟩:=aV.1 ha;simp at hb';have:=hlt x hx;omega
  have Ui:∀e∈ms++[(k,v,c)],e.2.2 < c+1:=by
   intro e he;rcases aj.1 he with h|h
   ·have:=hlt e h;omega
   ·simp at h;rw [h];exact Nat.lt_succ_self _
  refine ⟨w1,?_,⟨_,c+1,dR,Uh,Ui,fun k'=>?_⟩,hg1,hs1⟩
  ·simp only [Instr.mapUpdate,Sem.run_bind,run_underlying M.map_,Go.MapKept.run_getObj_map hb,Result.andThen_ok,M.check,nY,hp,Option.map_none,Nw,hr]
  ·show get (ms++[(k,v,c)]) k'=if k'=k then some v else f k'
   rw [vD hp,hf k']
end
abbrev sk (l:List UInt8):Value:=.string (bs l)
theorem pW (a b:List UInt8):(bs a ==bs b)=decide (a=b):=by
 show ((bs a).data ==(bs b).data)=_;rw [Bool.eq_iff_iff];simp [bs]
theorem GV (k:List UInt8):∀(ms:List (List UInt8×Value×Nat)) (i:Nat),Instr.findNow .string (.string (bs k)) (ms.map (jb sk)) i=some ((place ms k).map fun p=>(i+p.1,p.2.2.1))
 | [],_=>rfl
 |e :: r,i=>by
  have ih:=GV k r (i+1);simp only [ai,Instr.findNow,jb,Instr.sameNow,place];by_cases h:k=e.1
  ·subst h;simp [pW]
  ·have:(bs k ==bs e.1)=false:=by rw [pW];simpa using h
   rw [this,if_neg h];simp only;refine Eq.trans ih ?_;cases place r k with
   |none=>rfl
   |some p=>simp;omega
theorem MapTy.str {P:Program} {mt kt et:TypeId} {z:Value} (hm:P.underlying mt=some (.map kt et)) (hz:∀w,(zeroValue et).run P w=.ok z w) (hk:P.underlying kt=some .string):MapTy P sk mt kt et z where
 map_:=hm
 zero:=hz
 find:=fun k w ms=>by
  unfold Instr.findKey;simp only [Sem.run_bind,run_underlying hk,Result.andThen_ok,GV,Sem.run_pure,aY]
 check:=fun e a w=>by
  unfold Instr.checkKey;simp only [Sem.run_bind,run_underlying hk,Result.andThen_ok,Sem.run_pure]
 bits:=fun a=>by simp [Instr.sameBits,pW]
def SetS (P:Program) (w:World) (b:Nat) (l:List (List UInt8)):Prop:=∃f,MapF sk w b f/\∀s,(f s).getD (.bool false)=.bool (decide (s∈l))
section
variable {P:Program} {mt kt et:TypeId} {w w':World} {b:Nat} {l:List (List UInt8)}
theorem SetS.new (P:Program) (w:World):SetS P (w.alloc (.map #[] 0)) w.heap.size []:=⟨_,MapF.new w,fun s=>by simp⟩
theorem SetS.heap (h:SetS P w b l) (hb:w'.heap[b]? =w.heap[b]?):SetS P w' b l:=by
 obtain ⟨f,h1,h2⟩:=h;exact ⟨f,h1.heap hb,h2⟩
theorem SetS.lt (h:SetS P w b l):b < w.heap.size:=by
 obtain ⟨f,h1,_⟩:=h;exact h1.lt
theorem SetS.below (h:SetS P w b l) (hb:Below w.heap.size w w'):SetS P w' b l:=h.heap (hb.block b h.lt)
theorem SetS.alloc (h:SetS P w b l) (o:Obj):SetS P (w.alloc o) b l:=h.below ((aC _ w).alloc (aB _) o)
theorem SetS.grown {row:Option Nat} (h:SetS P w b l) (hb:w.grownBy w' row) (hg:some b≠row):SetS P w' b l:=h.heap (hb.block b h.lt hg)
theorem SetS.iff (h:SetS P w b l) {l':List (List UInt8)} (hl:∀x,x∈l↔x∈l'):SetS P w b l':=by
 obtain ⟨f,h1,h2⟩:=h;exact ⟨f,h1,fun s=>by rw [h2 s];congr 1;exact decide_eq_decide.2 (hl s)⟩
theorem SetS.look (M:MapTy P sk mt kt et (.bool false)) (h:SetS P w b l) (s:List UInt8):(Instr.lookup mt (.map (some b)) (.string (bs s)) false).run P w=.ok (.bool (decide (s∈l))) w:=by
 obtain ⟨f,h1,h2⟩:=h;rw [h1.look M s,h2]
theorem SetS.add (M:MapTy P sk mt kt et (.bool false)) (h:SetS P w b l) (s:List UInt8):
  ∃w1,(Instr.mapUpdate mt (.map (some b)) (.string (bs s)) (.bool true)).run P w=.ok () w1/\SetS P w1 b (s :: l)/\w.grownBy w1 (some b)/\w1.heap.size=w.heap.size:=by
 obtain ⟨f,h1,h2⟩:=h;obtain ⟨w1,e1,e2,e3,e4⟩:=h1.update M s (.bool true);refine ⟨w1,e1,⟨_,e2,fun x=>?_⟩,e3,e4⟩;by_cases c:x=s
 ·simp [c]
 ·simp only [if_neg c]
  rw [h2 x];simp [c]
end
end Ms
namespace Pt
open Go.RowKit
attribute [local go_sem] dO dL dQ dM
def tr (x n:Nat):Nat:=x / 2 ^ n ||| x*2 ^ (64 - n) % 18446744073709551616
theorem XX (n:Nat) (h1:1<=n) (h2:n<=63):bits .and .u64 (IntKind.u64.wrap (-(n:Int))) 63=((64 - n:Nat):Int):=by
 have e:IntKind.u64.wrap (-(n:Int))=((18446744073709551616 - n:Nat):Int):=by rw [IntKind.wrap_u64];omega
 rw [e];have:=u64_and_nat (18446744073709551616 - n) 63 (by omega) (by decide);rw [show (63:Nat)=2 ^ 6 - 1 from rfl,Nat.and_two_pow_sub_one_eq_mod] at this;refine Eq.trans this ?_;omega
theorem Pg (x n:Nat) (hx:x < 18446744073709551616) (hn:1<=n) (hn2:n<=63):bits .or .u64 (IntKind.u64.wrap ((x:Int)*2 ^ (64 - n))) ((x:Int) / 2 ^ (64 - (64 - n)))=((tr x n:Nat):Int):=by
 have e1:IntKind.u64.wrap ((x:Int)*2 ^ (64 - n))=((x*2 ^ (64 - n) % 18446744073709551616:Nat):Int):=by
  rw [IntKind.wrap_u64,Int.natCast_emod,Int.natCast_mul,Int.natCast_pow];rfl
 have e2:(x:Int) / 2 ^ (64 - (64 - n))=((x / 2 ^ n:Nat):Int):=by
  rw [show 64 - (64 - n)=n from by omega,Int.natCast_ediv,Int.natCast_pow];rfl
 rw [e1,e2,u64_or_nat _ _ (Nat.mod_lt _ (by decide)) (Nat.lt_of_le_of_lt (Nat.div_le_self _ _) hx)];unfold tr;rw [Nat.or_comm]
theorem TV (x n:Nat) (hx:x < 18446744073709551616) (hn:1<=n) (hn2:n<=63) (w:World):
  Calls prog 363 #[.int .u64 x,.int .i64 n] w fun e w'=>e=.returned (.int .u64 (tr x n:Nat))/\w=w':=by
 have h1:=XX n hn hn2;have hm:(0:Int)<=((64 - n:Nat):Int):=by omega
 have hm2:((64 - n:Nat):Int)<=64:=by omega
 go_enter func363,ntmps363;go_wp2_with (first|(go_at_call 395;go_in))
 go_ret;exact ⟨by rw [<-Pg x n hx hn hn2];rfl,rfl⟩
def ou (l:List UInt8):Nat:=l.foldl (fun x b=>x*256 ||| b.toNat) 0
theorem yS (l:List UInt8) (k:Nat) (h:k < l.length):ou (l.take (k+1))=ou (l.take k)*256 ||| l[k].toNat:=by
 unfold ou;rw [bF h,List.foldl_append];rfl
theorem vE (X k:Nat) (b:UInt8) (h:X < 256 ^ k):X*256 ||| b.toNat < 256 ^ (k+1):=by
 have hb:=b.toNat_lt;have e:(256:Nat) ^ (k+1)=2 ^ (8*(k+1)):=by rw [show (256:Nat)=2 ^ 8 from rfl,<-Nat.pow_mul]
 have hp:1<=256 ^ k:=Nat.one_le_pow _ _ (by decide);rw [e];refine Nat.or_lt_two_pow ?_ ?_
 ·rw [<-e,Nat.pow_succ];exact Nat.mul_lt_mul_of_pos_right h (by decide)
 ·rw [<-e,Nat.pow_succ];omega
theorem IN (X k:Nat) (b:UInt8) (hk:k < 8) (h:X < 256 ^ k):bits .or .u64 (IntKind.u64.wrap ((X:Int)*256)) (IntKind.u64.wrap (b.toNat:Int))=((X*256 ||| b.toNat:Nat):Int):=by
 have hb:=b.toNat_lt;have h7:256 ^ k<=256 ^ 7:=Nat.pow_le_pow_right (by decide) (by omega);have hX:X < 72057594037927936:=aN h h7;have e1:IntKind.u64.wrap ((X:Int)*256)=((X*256:Nat):Int):=by rw [IntKind.wrap_u64];omega
 have e2:IntKind.u64.wrap (b.toNat:Int)=((b.toNat:Nat):Int):=by rw [IntKind.wrap_u64];omega
 rw [e1,e2];exact u64_or_nat _ _ (by omega) (by omega)
theorem LB (l:List UInt8) (hl:8<=l.length) (hm:l.length<=1000000) (w:World):
  Calls prog 394 #[.string (bs l)] w fun e w'=>e=.returned (.int .u64 (ou (l.take 8):Nat))/\w=w':=by
 go_enter func394,ntmps394;go_wp2_with fail;go_loopw [3,5] (fun x i wr=>∃k:Nat,k<=8/\i=.int .i64 k/\x=.int .u64 ((ou (l.take k):Nat):Int)/\ou (l.take k) < 256 ^ k/\wr=w) (fun _ i _=>8 - (intOf i).toNat)
 case atStart=>exact ⟨0,by omega,rfl,by simp [ou],by simp [ou],rfl⟩
 case round=>
  obtain ⟨k,hk,rfl,rfl,hlt,rfl⟩:=hrel;rcases aG k 8 with h8|h8
  ·have hkl:k < l.length:=by omega
   have hs:=yS l k hkl;have hb:=vE (ou (l.take k)) k l[k] hlt;have hc:=IN (ou (l.take k)) k l[k] h8 hlt;generalize ou (l.take k)=X at*;have HS:=dH hs;have HB:=dH hb;have HC:=dH hc;clear hs hb hc;go_wp2_with fail;exact ⟨⟨k+1,by omega,by go_num,by rw [HC.o,HS.o],by rw [HS.o];exact HB.o,trivial⟩,by simp [intOf];omega⟩
  ·obtain rfl:k=8:=by omega
   go_wp2_with fail;go_ret;exact ⟨rfl,rfl⟩
end Pt
end Go.Proofs.YtgdaahffmcfhpaaGreatDoor
