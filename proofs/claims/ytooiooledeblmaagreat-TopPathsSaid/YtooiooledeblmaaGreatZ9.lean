/- The tables of the windows: the static ones, the indexes. The expander as a machine over bytes: what a byte does; plain. The expander in memory: what each of its functions does to it. The expander: a part's first byte, in either mode. The expander: a unit. -/
import Derived.Test.YtooiooledeblmaaGreatZ8
import Derived.StillTailTactics
import Derived.Deep.RegionWith
import Derived.Lib.EndianBits
import Derived.Laws.Bits64
import Derived.Laws.BitsLemmas
set_option linter.unusedVariables false
set_option linter.unusedSimpArgs false
namespace Go.Proofs.YtooiooledeblmaaGreat
namespace Win
open Go.RowKit
def specials:List Int:=[192,592,880,1328,12352,12448,65376]
theorem special_calls (w:World):Calls Tryz.prog 227 #[] w fun e w'=>e= .returned (.agg #[.int .u32 192,.int .u32 592,.int .u32 880,.int .u32 1328,.int .u32 12352,.int .u32 12448,.int .u32 65376])∧Below w.heap.size w w':=by
 go_enter Tryz.func227,Tryz.ntmps227;go_wp2;exact bodyPost_ret (v:=.agg #[.int .u32 192,.int .u32 592,.int .u32 880,.int .u32 1328,.int .u32 12352,.int .u32 12448,.int .u32 65376]) (by simp [results,Tryz.results227,go_sem]) rfl ⟨rfl,(Below.refl _ _).alloc (Nat.le_refl _) _⟩
def statics:List Int:=[0,128,256,768,8192,8320,8448,12288]
def wStatic (n:Int):Int×Bool:=if 0≤n∧n<8 then (statics.getD n.toNat 0,true) else (0,false)
theorem static_calls (n:Int) (w:World):Calls Tryz.prog 225 #[.int .i64 n] w fun e w'=>e= .returned (.tuple #[.int .u32 (wStatic n).1,.bool (wStatic n).2])∧w=w':=by
 by_cases hn:0≤n∧n<8
 ·have h8:n=0∨n=1∨n=2∨n=3∨n=4∨n=5∨n=6∨n=7:=by omega
  clear hn;rcases h8 with rfl|rfl|rfl|rfl|rfl|rfl|rfl|rfl
  ·have ix:∀w:World,(Instr.index 226 (.agg #[.int .u32 0,.int .u32 128,.int .u32 256,.int .u32 768,.int .u32 8192,.int .u32 8320,.int .u32 8448,.int .u32 12288]) (.int .i64 0)).run Tryz.prog w= .ok (.int .u32 0) w:=fun _=>by kernel_rfl
   go_enter Tryz.func225,Tryz.ntmps225;go_wp2;go_ret2;exact ⟨rfl,rfl⟩
  ·have ix:∀w:World,(Instr.index 226 (.agg #[.int .u32 0,.int .u32 128,.int .u32 256,.int .u32 768,.int .u32 8192,.int .u32 8320,.int .u32 8448,.int .u32 12288]) (.int .i64 1)).run Tryz.prog w= .ok (.int .u32 128) w:=fun _=>by kernel_rfl
   go_enter Tryz.func225,Tryz.ntmps225;go_wp2;go_ret2;exact ⟨rfl,rfl⟩
  ·have ix:∀w:World,(Instr.index 226 (.agg #[.int .u32 0,.int .u32 128,.int .u32 256,.int .u32 768,.int .u32 8192,.int .u32 8320,.int .u32 8448,.int .u32 12288]) (.int .i64 2)).run Tryz.prog w= .ok (.int .u32 256) w:=fun _=>by kernel_rfl
   go_enter Tryz.func225,Tryz.ntmps225;go_wp2;go_ret2;exact ⟨rfl,rfl⟩
  ·have ix:∀w:World,(Instr.index 226 (.agg #[.int .u32 0,.int .u32 128,.int .u32 256,.int .u32 768,.int .u32 8192,.int .u32 8320,.int .u32 8448,.int .u32 12288]) (.int .i64 3)).run Tryz.prog w= .ok (.int .u32 768) w:=fun _=>by kernel_rfl
   go_enter Tryz.func225,Tryz.ntmps225;go_wp2;go_ret2;exact ⟨rfl,rfl⟩
  ·have ix:∀w:World,(Instr.index 226 (.agg #[.int .u32 0,.int .u32 128,.int .u32 256,.int .u32 768,.int .u32 8192,.int .u32 8320,.int .u32 8448,.int .u32 12288]) (.int .i64 4)).run Tryz.prog w= .ok (.int .u32 8192) w:=fun _=>by kernel_rfl
   go_enter Tryz.func225,Tryz.ntmps225;go_wp2;go_ret2;exact ⟨rfl,rfl⟩
  ·have ix:∀w:World,(Instr.index 226 (.agg #[.int .u32 0,.int .u32 128,.int .u32 256,.int .u32 768,.int .u32 8192,.int .u32 8320,.int .u32 8448,.int .u32 12288]) (.int .i64 5)).run Tryz.prog w= .ok (.int .u32 8320) w:=fun _=>by kernel_rfl
   go_enter Tryz.func225,Tryz.ntmps225;go_wp2;go_ret2;exact ⟨rfl,rfl⟩
  ·have ix:∀w:World,(Instr.index 226 (.agg #[.int .u32 0,.int .u32 128,.int .u32 256,.int .u32 768,.int .u32 8192,.int .u32 8320,.int .u32 8448,.int .u32 12288]) (.int .i64 6)).run Tryz.prog w= .ok (.int .u32 8448) w:=fun _=>by kernel_rfl
   go_enter Tryz.func225,Tryz.ntmps225;go_wp2;go_ret2;exact ⟨rfl,rfl⟩
  ·have ix:∀w:World,(Instr.index 226 (.agg #[.int .u32 0,.int .u32 128,.int .u32 256,.int .u32 768,.int .u32 8192,.int .u32 8320,.int .u32 8448,.int .u32 12288]) (.int .i64 7)).run Tryz.prog w= .ok (.int .u32 12288) w:=fun _=>by kernel_rfl
   go_enter Tryz.func225,Tryz.ntmps225;go_wp2;go_ret2;exact ⟨rfl,rfl⟩
 ·have he:wStatic n=(0,false):=by unfold wStatic;rw [if_neg hn]
  rw [he]
  clear he
  by_cases h0:0≤n
  ·have h1:¬n<8:=by omega
   clear hn;go_enter Tryz.func225,Tryz.ntmps225;go_wp2;go_ret2;exact ⟨rfl,rfl⟩
  ·clear hn
   go_enter Tryz.func225,Tryz.ntmps225;go_wp2;go_ret2;exact ⟨rfl,rfl⟩
def wOffset (x:Int):Int×Bool:=if x=0∨167<x∧x<249 then (0,false) else if x≤103 then (x*128,true) else if x≤167 then (x*128+44032,true) else (specials.getD (x-249).toNat 0,true)
set_option maxHeartbeats 1000000 in
theorem offset_calls (x:Int) (w:World) (h0:0≤x) (h1:x≤255):Calls Tryz.prog 226 #[.int .u8 x] w fun e w'=>e= .returned (.tuple #[.int .u32 (wOffset x).1,.bool (wOffset x).2])∧Below w.heap.size w w':=by
 by_cases ha:x=0
 ·subst ha
  go_enter Tryz.func226,Tryz.ntmps226;go_wp2;go_ret2;exact ⟨rfl,Below.refl _ _⟩
 by_cases hb:167<x∧x<249
 ·have he:wOffset x=(0,false):=by unfold wOffset;rw [if_pos (.inr hb)]
  rw [he]
  have e0:(x==0)=false:=by simpa using ha
  obtain ⟨hb1,hb2⟩:=hb;clear he ha;go_enter Tryz.func226,Tryz.ntmps226;go_wp2;go_ret2;exact ⟨rfl,Below.refl _ _⟩
 by_cases hc:x≤103
 ·have he:wOffset x=(x*128,true):=by unfold wOffset;rw [if_neg (by omega),if_pos hc]
  rw [he]
  have e0:(x==0)=false:=by simpa using ha
  have hb1:¬167<x:=by omega
  clear he ha hb;go_enter Tryz.func226,Tryz.ntmps226;go_wp2;go_ret2;exact ⟨by first|(simp;done)|(simp;omega),Below.refl _ _⟩
 by_cases hd:x≤167
 ·have he:wOffset x=(x*128+44032,true):=by unfold wOffset;rw [if_neg (by omega),if_neg hc,if_pos hd]
  rw [he]
  have e0:(x==0)=false:=by simpa using ha
  have hb1:¬167<x:=by omega
  clear he ha hb;go_enter Tryz.func226,Tryz.ntmps226;go_wp2;go_ret2;exact ⟨by first|(simp;done)|(simp;omega),Below.refl _ _⟩
 have h7:x=249∨x=250∨x=251∨x=252∨x=253∨x=254∨x=255:=by omega
 clear ha hb hc hd h0 h1;rcases h7 with rfl|rfl|rfl|rfl|rfl|rfl|rfl
 ·have ix:∀w:World,(Instr.index 287 (.agg #[.int .u32 192,.int .u32 592,.int .u32 880,.int .u32 1328,.int .u32 12352,.int .u32 12448,.int .u32 65376]) (.int .u32 0)).run Tryz.prog w= .ok (.int .u32 192) w:=fun _=>by kernel_rfl
  go_enter Tryz.func226,Tryz.ntmps226;go_wp2_with (go_at_call 227;refine (special_calls _).mono ?_;rintro e w1 ⟨rfl,hB⟩)
  go_ret2;exact ⟨rfl,by assumption⟩
 ·have ix:∀w:World,(Instr.index 287 (.agg #[.int .u32 192,.int .u32 592,.int .u32 880,.int .u32 1328,.int .u32 12352,.int .u32 12448,.int .u32 65376]) (.int .u32 1)).run Tryz.prog w= .ok (.int .u32 592) w:=fun _=>by kernel_rfl
  go_enter Tryz.func226,Tryz.ntmps226;go_wp2_with (go_at_call 227;refine (special_calls _).mono ?_;rintro e w1 ⟨rfl,hB⟩)
  go_ret2;exact ⟨rfl,by assumption⟩
 ·have ix:∀w:World,(Instr.index 287 (.agg #[.int .u32 192,.int .u32 592,.int .u32 880,.int .u32 1328,.int .u32 12352,.int .u32 12448,.int .u32 65376]) (.int .u32 2)).run Tryz.prog w= .ok (.int .u32 880) w:=fun _=>by kernel_rfl
  go_enter Tryz.func226,Tryz.ntmps226;go_wp2_with (go_at_call 227;refine (special_calls _).mono ?_;rintro e w1 ⟨rfl,hB⟩)
  go_ret2;exact ⟨rfl,by assumption⟩
 ·have ix:∀w:World,(Instr.index 287 (.agg #[.int .u32 192,.int .u32 592,.int .u32 880,.int .u32 1328,.int .u32 12352,.int .u32 12448,.int .u32 65376]) (.int .u32 3)).run Tryz.prog w= .ok (.int .u32 1328) w:=fun _=>by kernel_rfl
  go_enter Tryz.func226,Tryz.ntmps226;go_wp2_with (go_at_call 227;refine (special_calls _).mono ?_;rintro e w1 ⟨rfl,hB⟩)
  go_ret2;exact ⟨rfl,by assumption⟩
 ·have ix:∀w:World,(Instr.index 287 (.agg #[.int .u32 192,.int .u32 592,.int .u32 880,.int .u32 1328,.int .u32 12352,.int .u32 12448,.int .u32 65376]) (.int .u32 4)).run Tryz.prog w= .ok (.int .u32 12352) w:=fun _=>by kernel_rfl
  go_enter Tryz.func226,Tryz.ntmps226;go_wp2_with (go_at_call 227;refine (special_calls _).mono ?_;rintro e w1 ⟨rfl,hB⟩)
  go_ret2;exact ⟨rfl,by assumption⟩
 ·have ix:∀w:World,(Instr.index 287 (.agg #[.int .u32 192,.int .u32 592,.int .u32 880,.int .u32 1328,.int .u32 12352,.int .u32 12448,.int .u32 65376]) (.int .u32 5)).run Tryz.prog w= .ok (.int .u32 12448) w:=fun _=>by kernel_rfl
  go_enter Tryz.func226,Tryz.ntmps226;go_wp2_with (go_at_call 227;refine (special_calls _).mono ?_;rintro e w1 ⟨rfl,hB⟩)
  go_ret2;exact ⟨rfl,by assumption⟩
 ·have ix:∀w:World,(Instr.index 287 (.agg #[.int .u32 192,.int .u32 592,.int .u32 880,.int .u32 1328,.int .u32 12352,.int .u32 12448,.int .u32 65376]) (.int .u32 6)).run Tryz.prog w= .ok (.int .u32 65376) w:=fun _=>by kernel_rfl
  go_enter Tryz.func226,Tryz.ntmps226;go_wp2_with (go_at_call 227;refine (special_calls _).mono ?_;rintro e w1 ⟨rfl,hB⟩)
  go_ret2;exact ⟨rfl,by assumption⟩
def idxFrom (c:Int):Nat→List Int→Option Nat
 |_,[]=>none
 |n,x::l=>if hld x c=true then some n else idxFrom c (n+1) l
def wIndex (c:Int):Int×Bool:=match idxFrom c 0 specials with
 |some n=>(249+(n:Int),true)
 |none=>if 128≤c∧c<13312 then (c/128,true) else if 57344≤c∧c<65536 then ((c-44032)/128,true) else (0,false)
set_option maxHeartbeats 2000000 in
theorem index_calls (c:Int) (w:World) (h0:0≤c) (h1:c≤4294967295):Calls Tryz.prog 222 #[.int .u32 c] w fun e w'=>e= .returned (.tuple #[.int .u8 (wIndex c).1,.bool (wIndex c).2])∧Below w.heap.size w w':=by
 go_enter Tryz.func222,Tryz.ntmps222;go_wp2_with (go_at_call 227;refine (special_calls _).mono ?_;rintro e w1 ⟨rfl,hB⟩)
 have HB:=Lib.hid hB;clear hB;go_loop [7] (fun i=>∃(k:Nat) (z:Int),z=k∧k≤7∧i= .int .i64 z∧Hid (idxFrom c 0 specials=idxFrom c k (specials.drop k))) (fun i=>8-(intOf i).toNat)
 case atStart=>exact ⟨0,0,rfl,by decide,rfl,Lib.hid rfl⟩
 case round=>
  obtain ⟨k,z,hz,hk,rfl,HF⟩:=hrel;have hk8:k=0∨k=1∨k=2∨k=3∨k=4∨k=5∨k=6∨k=7:=by omega
  rcases hk8 with rfl|rfl|rfl|rfl|rfl|rfl|rfl|rfl
  ·obtain rfl:z=0:=hz
   have ix:∀w:World,(Instr.index 287 (.agg #[.int .u32 192,.int .u32 592,.int .u32 880,.int .u32 1328,.int .u32 12352,.int .u32 12448,.int .u32 65376]) (.int .i64 0)).run Tryz.prog w= .ok (.int .u32 192) w:=fun _=>by kernel_rfl
   have hx:=holds_calls 192 c w1 (by decide) (by decide) h0 h1
   by_cases hb:hld 192 c=true
   ·have HS:=Lib.hid (show wIndex c=(249+0,true) from by
     unfold wIndex;rw [HF.out]
     simp [specials,idxFrom,hb])
    rw [hb] at hx;clear hb HF;go_wp2_with (go_at_call 214;refine hx.mono ?_;rintro e w2 ⟨rfl,rfl⟩)
    go_ret2;exact ⟨by rw [HS.out];rfl,HB.out⟩
   ·have hb':hld 192 c=false:=by simpa using hb
    have HS:=Lib.hid (show idxFrom c 0 specials=idxFrom c 1 (specials.drop 1) from by
     rw [HF.out]
     simp [specials,idxFrom,hb'])
    rw [hb'] at hx;clear hb hb' HF;go_wp2_with (go_at_call 214;refine hx.mono ?_;rintro e w2 ⟨rfl,rfl⟩)
    exact ⟨⟨1,1,rfl,by decide,by rfl,HS⟩,by simp [intOf]⟩
  ·obtain rfl:z=1:=hz
   have ix:∀w:World,(Instr.index 287 (.agg #[.int .u32 192,.int .u32 592,.int .u32 880,.int .u32 1328,.int .u32 12352,.int .u32 12448,.int .u32 65376]) (.int .i64 1)).run Tryz.prog w= .ok (.int .u32 592) w:=fun _=>by kernel_rfl
   have hx:=holds_calls 592 c w1 (by decide) (by decide) h0 h1
   by_cases hb:hld 592 c=true
   ·have HS:=Lib.hid (show wIndex c=(249+1,true) from by
     unfold wIndex;rw [HF.out]
     simp [specials,idxFrom,hb])
    rw [hb] at hx;clear hb HF;go_wp2_with (go_at_call 214;refine hx.mono ?_;rintro e w2 ⟨rfl,rfl⟩)
    go_ret2;exact ⟨by rw [HS.out];rfl,HB.out⟩
   ·have hb':hld 592 c=false:=by simpa using hb
    have HS:=Lib.hid (show idxFrom c 0 specials=idxFrom c 2 (specials.drop 2) from by
     rw [HF.out]
     simp [specials,idxFrom,hb'])
    rw [hb'] at hx;clear hb hb' HF;go_wp2_with (go_at_call 214;refine hx.mono ?_;rintro e w2 ⟨rfl,rfl⟩)
    exact ⟨⟨2,2,rfl,by decide,by rfl,HS⟩,by simp [intOf]⟩
  ·obtain rfl:z=2:=hz
   have ix:∀w:World,(Instr.index 287 (.agg #[.int .u32 192,.int .u32 592,.int .u32 880,.int .u32 1328,.int .u32 12352,.int .u32 12448,.int .u32 65376]) (.int .i64 2)).run Tryz.prog w= .ok (.int .u32 880) w:=fun _=>by kernel_rfl
   have hx:=holds_calls 880 c w1 (by decide) (by decide) h0 h1
   by_cases hb:hld 880 c=true
   ·have HS:=Lib.hid (show wIndex c=(249+2,true) from by
     unfold wIndex;rw [HF.out]
     simp [specials,idxFrom,hb])
    rw [hb] at hx;clear hb HF;go_wp2_with (go_at_call 214;refine hx.mono ?_;rintro e w2 ⟨rfl,rfl⟩)
    go_ret2;exact ⟨by rw [HS.out];rfl,HB.out⟩
   ·have hb':hld 880 c=false:=by simpa using hb
    have HS:=Lib.hid (show idxFrom c 0 specials=idxFrom c 3 (specials.drop 3) from by
     rw [HF.out]
     simp [specials,idxFrom,hb'])
    rw [hb'] at hx;clear hb hb' HF;go_wp2_with (go_at_call 214;refine hx.mono ?_;rintro e w2 ⟨rfl,rfl⟩)
    exact ⟨⟨3,3,rfl,by decide,by rfl,HS⟩,by simp [intOf]⟩
  ·obtain rfl:z=3:=hz
   have ix:∀w:World,(Instr.index 287 (.agg #[.int .u32 192,.int .u32 592,.int .u32 880,.int .u32 1328,.int .u32 12352,.int .u32 12448,.int .u32 65376]) (.int .i64 3)).run Tryz.prog w= .ok (.int .u32 1328) w:=fun _=>by kernel_rfl
   have hx:=holds_calls 1328 c w1 (by decide) (by decide) h0 h1
   by_cases hb:hld 1328 c=true
   ·have HS:=Lib.hid (show wIndex c=(249+3,true) from by
     unfold wIndex;rw [HF.out]
     simp [specials,idxFrom,hb])
    rw [hb] at hx;clear hb HF;go_wp2_with (go_at_call 214;refine hx.mono ?_;rintro e w2 ⟨rfl,rfl⟩)
    go_ret2;exact ⟨by rw [HS.out];rfl,HB.out⟩
   ·have hb':hld 1328 c=false:=by simpa using hb
    have HS:=Lib.hid (show idxFrom c 0 specials=idxFrom c 4 (specials.drop 4) from by
     rw [HF.out]
     simp [specials,idxFrom,hb'])
    rw [hb'] at hx;clear hb hb' HF;go_wp2_with (go_at_call 214;refine hx.mono ?_;rintro e w2 ⟨rfl,rfl⟩)
    exact ⟨⟨4,4,rfl,by decide,by rfl,HS⟩,by simp [intOf]⟩
  ·obtain rfl:z=4:=hz
   have ix:∀w:World,(Instr.index 287 (.agg #[.int .u32 192,.int .u32 592,.int .u32 880,.int .u32 1328,.int .u32 12352,.int .u32 12448,.int .u32 65376]) (.int .i64 4)).run Tryz.prog w= .ok (.int .u32 12352) w:=fun _=>by kernel_rfl
   have hx:=holds_calls 12352 c w1 (by decide) (by decide) h0 h1
   by_cases hb:hld 12352 c=true
   ·have HS:=Lib.hid (show wIndex c=(249+4,true) from by
     unfold wIndex;rw [HF.out]
     simp [specials,idxFrom,hb])
    rw [hb] at hx;clear hb HF;go_wp2_with (go_at_call 214;refine hx.mono ?_;rintro e w2 ⟨rfl,rfl⟩)
    go_ret2;exact ⟨by rw [HS.out];rfl,HB.out⟩
   ·have hb':hld 12352 c=false:=by simpa using hb
    have HS:=Lib.hid (show idxFrom c 0 specials=idxFrom c 5 (specials.drop 5) from by
     rw [HF.out]
     simp [specials,idxFrom,hb'])
    rw [hb'] at hx;clear hb hb' HF;go_wp2_with (go_at_call 214;refine hx.mono ?_;rintro e w2 ⟨rfl,rfl⟩)
    exact ⟨⟨5,5,rfl,by decide,by rfl,HS⟩,by simp [intOf]⟩
  ·obtain rfl:z=5:=hz
   have ix:∀w:World,(Instr.index 287 (.agg #[.int .u32 192,.int .u32 592,.int .u32 880,.int .u32 1328,.int .u32 12352,.int .u32 12448,.int .u32 65376]) (.int .i64 5)).run Tryz.prog w= .ok (.int .u32 12448) w:=fun _=>by kernel_rfl
   have hx:=holds_calls 12448 c w1 (by decide) (by decide) h0 h1
   by_cases hb:hld 12448 c=true
   ·have HS:=Lib.hid (show wIndex c=(249+5,true) from by
     unfold wIndex;rw [HF.out]
     simp [specials,idxFrom,hb])
    rw [hb] at hx;clear hb HF;go_wp2_with (go_at_call 214;refine hx.mono ?_;rintro e w2 ⟨rfl,rfl⟩)
    go_ret2;exact ⟨by rw [HS.out];rfl,HB.out⟩
   ·have hb':hld 12448 c=false:=by simpa using hb
    have HS:=Lib.hid (show idxFrom c 0 specials=idxFrom c 6 (specials.drop 6) from by
     rw [HF.out]
     simp [specials,idxFrom,hb'])
    rw [hb'] at hx;clear hb hb' HF;go_wp2_with (go_at_call 214;refine hx.mono ?_;rintro e w2 ⟨rfl,rfl⟩)
    exact ⟨⟨6,6,rfl,by decide,by rfl,HS⟩,by simp [intOf]⟩
  ·obtain rfl:z=6:=hz
   have ix:∀w:World,(Instr.index 287 (.agg #[.int .u32 192,.int .u32 592,.int .u32 880,.int .u32 1328,.int .u32 12352,.int .u32 12448,.int .u32 65376]) (.int .i64 6)).run Tryz.prog w= .ok (.int .u32 65376) w:=fun _=>by kernel_rfl
   have hx:=holds_calls 65376 c w1 (by decide) (by decide) h0 h1
   by_cases hb:hld 65376 c=true
   ·have HS:=Lib.hid (show wIndex c=(249+6,true) from by
     unfold wIndex;rw [HF.out]
     simp [specials,idxFrom,hb])
    rw [hb] at hx;clear hb HF;go_wp2_with (go_at_call 214;refine hx.mono ?_;rintro e w2 ⟨rfl,rfl⟩)
    go_ret2;exact ⟨by rw [HS.out];rfl,HB.out⟩
   ·have hb':hld 65376 c=false:=by simpa using hb
    have HS:=Lib.hid (show idxFrom c 0 specials=idxFrom c 7 (specials.drop 7) from by
     rw [HF.out]
     simp [specials,idxFrom,hb'])
    rw [hb'] at hx;clear hb hb' HF;go_wp2_with (go_at_call 214;refine hx.mono ?_;rintro e w2 ⟨rfl,rfl⟩)
    exact ⟨⟨7,7,rfl,by decide,by rfl,HS⟩,by simp [intOf]⟩
  ·obtain rfl:z=7:=hz
   have hw:wIndex c=if 128≤c∧c<13312 then (c/128,true) else if 57344≤c∧c<65536 then ((c-44032)/128,true) else (0,false):=by
    unfold wIndex;rw [HF.out]
    rfl
   clear HF
   by_cases ha:128≤c∧c<13312
   ·rw [if_pos ha] at hw
    have HWI:=Lib.hid hw;obtain ⟨ha1,ha2⟩:=ha;clear hw;go_wp2;go_ret2;exact ⟨by rw [HWI.out];first|rfl|(simp;omega),HB.out⟩
   ·by_cases hb:57344≤c∧c<65536
    ·rw [if_neg ha,if_pos hb] at hw
     have HWI:=Lib.hid hw;obtain ⟨hb1,hb2⟩:=hb;have ha2:¬c<13312:=by omega
     have ha3:0≤c-44032:=by omega
     clear hw ha;go_wp2;go_ret2;exact ⟨by rw [HWI.out];first|rfl|(simp;omega),HB.out⟩
    ·rw [if_neg ha,if_neg hb] at hw
     have HWI:=Lib.hid hw;clear hw
     by_cases hc:128≤c
     ·have ha2:¬c<13312:=by omega
      by_cases hd:57344≤c
      ·have hb2:¬c<65536:=by omega
       clear ha hb;go_wp2;go_ret2;exact ⟨by rw [HWI.out];rfl,HB.out⟩
      ·clear ha hb
       go_wp2;go_ret2;exact ⟨by rw [HWI.out];rfl,HB.out⟩
     ·have hd:¬57344≤c:=by omega
      clear ha hb;go_wp2;go_ret2;exact ⟨by rw [HWI.out];rfl,HB.out⟩
end Win
namespace Mach
open Win
structure M where
 o:List Int
 uni:Bool
 act:Int
 beg:Int
 n:Int
 first:Int
 upper:Int
def low8 (b:Int):Bool:=decide (220≤b)&&decide (b≤223)
def M.fits (m:M) (b:Int):Bool:=low8 b==decide (m.upper≠0)
def M.begin (m:M) (k n:Int):M:={m with beg:=k,n:=n}
def M.activate (m:M) (n:Int):M:={m with act:=n,uni:=false,beg:=0}
def pass (b:Int):Bool:=decide (32≤b)||decide (b=0)||decide (b=9)||decide (b=10)||decide (b=13)
def single (m:M) (b:Int):Option (M×List Int):=
 if (m.upper≠0∧b≠14)∨b=12 then none
 else if 128≤b then some (m,[wAt m.o m.act+b-128])
 else if pass b=true then some (m,[b])
 else if 24≤b then some (m.begin 2 (b-24),[])
 else if 16≤b then some (m.activate (b-16),[])
 else if b=15 then some ({m with uni:=true},[])
 else if b=14 then some (m.begin 5 0,[])
 else if b=11 then some (m.begin 3 0,[])
 else some (m.begin 1 (b-1),[])
def double (m:M) (b:Int):Option (M×List Int):=
 if b<224∨242<b then (if m.fits b=true then some (({m with first:=b}:M).begin 6 0,[]) else none)
 else if b=240 then some (m.begin 5 0,[])
 else if m.upper≠0∨b=242 then none
 else if b=241 then some (m.begin 3 0,[])
 else if 232≤b then some (m.begin 2 (b-232),[])
 else some (m.activate (b-224),[])
def whole (m:M) (u:Int):M×List Int:=
 if m.upper≠0 then ({m with beg:=0,upper:=0},[65536+m.upper%1024*1024+u%1024])
 else if 55296≤u∧u<56320 then ({m with beg:=0,upper:=u},[])
 else ({m with beg:=0},[u])
def more (m:M) (b:Int):Option (M×List Int):=
 if m.beg=1 then some ({m with beg:=0},[if 128≤b then wAt m.o m.n-128+b else (wStatic m.n).1+b])
 else if m.beg=2 then (if (wOffset b).2=true then some (({m with o:=m.o.set m.n.toNat (wOffset b).1}:M).activate m.n,[]) else none)
 else if m.beg=3 then some ({m with first:=b,beg:=4},[])
 else if m.beg=4 then some (({m with o:=m.o.set (m.first/32).toNat (65536+128*(m.first%32*256+b))}:M).activate (m.first/32),[])
 else if m.beg=5 then (if m.fits b=true then some (({m with first:=b}:M).begin 6 0,[]) else none)
 else some (whole m (m.first*256+b))
def step (m:M) (b:Int):Option (M×List Int):=if m.beg≠0 then more m b else if m.uni=true then double m b else single m b
structure Good (m:M):Prop where
 lo:m.o.length=8
 ro:∀x∈m.o,128≤x∧x≤1114000
 act:0≤m.act∧m.act<8
 n:0≤m.n∧m.n<8
 first:0≤m.first∧m.first≤255
 upper:m.upper=0∨55296≤m.upper∧m.upper<56320
 beg:0≤m.beg∧m.beg≤6
theorem Good.at_ {m:M} (h:Good m) {n:Int} (h0:0≤n) (h1:n<8):128≤wAt m.o n∧wAt m.o n≤1114000:=by
 unfold wAt;rw [if_pos ⟨h0,h1⟩,List.getD_eq_getElem?_getD,List.getElem?_eq_getElem (by rw [h.lo];omega)]
 exact h.ro _ (List.getElem_mem _)
theorem offset_rng {b:Int} (h0:0≤b) (h1:b≤255) (h:(wOffset b).2=true):128≤(wOffset b).1∧(wOffset b).1≤1114000:=by
 have key:∀b:Fin 256,(wOffset (b.val:Int)).2=true→128≤(wOffset (b.val:Int)).1∧(wOffset (b.val:Int)).1≤1114000:=by decide +kernel
 have:=key ⟨b.toNat,by omega⟩
 simp only [Int.toNat_of_nonneg h0] at this;exact this h
theorem static_rng {n:Int} (h0:0≤n) (h1:n<8):0≤(wStatic n).1∧(wStatic n).1≤12288:=by
 have key:∀b:Fin 8,0≤(wStatic (b.val:Int)).1∧(wStatic (b.val:Int)).1≤12288:=by decide +kernel
 have:=key ⟨n.toNat,by omega⟩
 simp only [Int.toNat_of_nonneg h0] at this;exact this
theorem set_rng {o:List Int} (h:∀x∈o,128≤x∧x≤1114000) (j:Nat) {c:Int} (hc:128≤c∧c≤1114000):∀x∈o.set j c,128≤x∧x≤1114000:=by
 intro x hx;rcases List.mem_or_eq_of_mem_set hx with hx|rfl
 ·exact h x hx
 ·exact hc
theorem good_step {m m':M} {b:Int} {e:List Int} (h:Good m) (b0:0≤b) (b1:b≤255) (hs:step m b=some (m',e)):Good m':=by
 obtain ⟨h1,h2,h3,h4,h5,h6,h7⟩:=h;unfold step at hs
 split at hs
 ·unfold more whole at hs
  repeat' split at hs
  all_goals first
   |(cases hs;done)
   |(simp only [Option.some.injEq,Prod.mk.injEq] at hs
     obtain ⟨rfl,_⟩:=hs
     first
     |exact ⟨h1,h2,h3,h4,h5,h6,by simp⟩
     |exact ⟨h1,h2,h3,h4,h5,.inl rfl,by simp⟩
     |exact ⟨h1,h2,h3,h4,h5,.inr ‹_›,by simp⟩
     |exact ⟨h1,h2,h3,h4,⟨b0,b1⟩,h6,by simp⟩
     |exact ⟨h1,h2,h3,by simp [M.begin],⟨b0,b1⟩,h6,by simp [M.begin]⟩
     |exact ⟨by simp [M.activate,h1],set_rng h2 _ (offset_rng b0 b1 ‹_›),h4,h4,h5,h6,by simp [M.activate]⟩
     |exact ⟨by simp [M.activate,h1],set_rng h2 _ (by omega),by simp only [M.activate];omega,h4,h5,h6,by simp [M.activate]⟩)
 ·split at hs
  ·unfold double at hs
   repeat' split at hs
   all_goals first
    |(cases hs;done)
    |(simp only [Option.some.injEq,Prod.mk.injEq] at hs
      obtain ⟨rfl,_⟩:=hs
      first
      |(refine ⟨h1,h2,h3,?_,h5,h6,?_⟩ <;>(simp only [M.begin];omega))
      |(refine ⟨h1,h2,h3,?_,⟨b0,b1⟩,h6,?_⟩ <;>(simp only [M.begin];omega))
      |(refine ⟨h1,h2,?_,h4,h5,h6,?_⟩ <;>(simp only [M.activate];omega)))
  ·unfold single at hs
   repeat' split at hs
   all_goals first
    |(cases hs;done)
    |(simp only [Option.some.injEq,Prod.mk.injEq] at hs
      obtain ⟨rfl,_⟩:=hs
      first
      |exact ⟨h1,h2,h3,h4,h5,h6,h7⟩
      |(refine ⟨h1,h2,h3,?_,h5,h6,?_⟩ <;>(simp only [M.begin];first|omega|(simp only [pass,Bool.or_eq_true,decide_eq_true_eq,not_or] at *;omega)))
      |(refine ⟨h1,h2,?_,h4,h5,h6,?_⟩ <;>(simp only [M.activate];omega)))
end Mach
namespace Dec
open Go.RowKit Win Stp Mach
def decCells (b:B4) (v:Value) (gw:Nat) (m:M):Array Value:=
 #[.int .i64 b.at_,.int .i64 b.err,.int .i64 b.pl,.bool b.fin,v,.pointer (some ⟨gw,0,none⟩),.bool m.uni,.int .i64 m.act,.int .i64 m.beg,.int .i64 m.n,.int .u8 m.first,.int .u32 m.upper]
structure DecAt (w:World) (g gw rb:Nat) (v:Value) (b:B4) (l:List Int) (m:M):Prop where
 blk:w.heap[g]? =some (.cells (decCells b v gw m) 208 (0,0))
 win:WinAt w gw m.o used0
 row:w.ownsRow rb 31 1 v l.length (u32s l)
 nil:l=[]→v= .slice none 0 0
 rbl:rb≤w.heap.size
section
variable {w:World} {g gw rb:Nat} {v:Value} {b:B4} {l:List Int} {m:M}
theorem DecAt.base (h:DecAt w g gw rb v b l m):BaseAt w g b:=⟨by rw [cell_of h.blk];rfl,by rw [cell_of h.blk];rfl,by rw [cell_of h.blk];rfl,by rw [cell_of h.blk];rfl,frozen_of h.blk⟩
theorem DecAt.fz (h:DecAt w g gw rb v b l m):∀j,w.frozen? ⟨g,j,none⟩=false:=frozen_of h.blk
theorem DecAt.c4 (h:DecAt w g gw rb v b l m):w.cell? ⟨g,4,none⟩=some v:=by rw [cell_of h.blk];rfl
theorem DecAt.c5 (h:DecAt w g gw rb v b l m):w.cell? ⟨g,5,none⟩=some (.pointer (some ⟨gw,0,none⟩)):=by rw [cell_of h.blk];rfl
theorem DecAt.c6 (h:DecAt w g gw rb v b l m):w.cell? ⟨g,6,none⟩=some (.bool m.uni):=by rw [cell_of h.blk];rfl
theorem DecAt.c7 (h:DecAt w g gw rb v b l m):w.cell? ⟨g,7,none⟩=some (.int .i64 m.act):=by rw [cell_of h.blk];rfl
theorem DecAt.c8 (h:DecAt w g gw rb v b l m):w.cell? ⟨g,8,none⟩=some (.int .i64 m.beg):=by rw [cell_of h.blk];rfl
theorem DecAt.c9 (h:DecAt w g gw rb v b l m):w.cell? ⟨g,9,none⟩=some (.int .i64 m.n):=by rw [cell_of h.blk];rfl
theorem DecAt.c10 (h:DecAt w g gw rb v b l m):w.cell? ⟨g,10,none⟩=some (.int .u8 m.first):=by rw [cell_of h.blk];rfl
theorem DecAt.c11 (h:DecAt w g gw rb v b l m):w.cell? ⟨g,11,none⟩=some (.int .u32 m.upper):=by rw [cell_of h.blk];rfl
theorem DecAt.lt (h:DecAt w g gw rb v b l m):g<w.heap.size:=(Array.getElem?_eq_some_iff.1 h.blk).1
theorem DecAt.ne_gw (h:DecAt w g gw rb v b l m):gw≠g:=by
 rintro rfl;have:=h.blk.symm.trans h.win.blk;simp at this
theorem own_ne_blk {base:Nat} {e t:TypeId} {size n g:Nat} {v:Value} {xs:List Value} {cs:Array Value} (h:w.ownsRow base e size v n xs) (hg:w.heap[g]? =some (.cells cs t (0,0))) (hne:e≠t):v.ownBlock≠some g:=by
 intro he;rcases h.2 with ⟨rfl,_⟩|⟨g',cap,cur,rfl,_,hb,_⟩
 ·simp [Value.ownBlock] at he
 ·simp [Value.ownBlock] at he
  subst he;have:=hg.symm.trans hb;simp at this;exact hne this.2.symm
theorem DecAt.row_g (h:DecAt w g gw rb v b l m):v.ownBlock≠some g:=own_ne_blk h.row h.blk (by decide)
theorem DecAt.row_gw (h:DecAt w g gw rb v b l m):v.ownBlock≠some gw:=own_ne_blk h.row h.win.blk (by decide)
theorem DecAt.set (h:DecAt w g gw rb v b l m) (j:Nat) (u:Value) {b':B4} {m':M} (he:(decCells b v gw m).setIfInBounds j u=decCells b' v gw m') (ho:m'.o=m.o):DecAt (w.setCell ⟨g,j,none⟩ u) g gw rb v b' l m':=by
 refine ⟨?_,?_,?_,h.nil,?_⟩
 ·rw [heap_setCell_same w g j _ _ _ h.blk,he]
 ·rw [ho];exact h.win.keep (Below.heap_setCell w _ _ gw h.ne_gw)
 ·refine h.row.kept (w':=w.setCell ⟨g,j,none⟩ u) (row:=some g) ⟨rfl,rfl,rfl,by simp [World.setCell],fun k hk hn=>Below.heap_setCell w _ _ k (fun e=>hn (by rw [e]))⟩ (.inr h.row_g)
 ·have:=h.rbl;simpa [World.setCell] using this
theorem DecAt.keep {w':World} (h:DecAt w g gw rb v b l m) (hs:w.heap.size≤w'.heap.size) (h0:w'.heap[g]? =w.heap[g]?) (h1:w'.heap[gw]? =w.heap[gw]?) (h2:∀k,v.ownBlock=some k→w'.heap[k]? =w.heap[k]?):DecAt w' g gw rb v b l m:=by
 refine ⟨h0.trans h.blk,h.win.keep h1,?_,h.nil,Nat.le_trans h.rbl hs⟩
 obtain ⟨a1,a2⟩:=h.row;refine ⟨a1,?_⟩
 rcases a2 with a2|⟨g',cap,cur,hv,hb,hh,r⟩
 ·exact .inl a2
 ·exact .inr ⟨g',cap,cur,hv,hb,(h2 g' (by rw [hv];rfl)).trans hh,r⟩
theorem DecAt.alloc (h:DecAt w g gw rb v b l m) (o:Obj):DecAt (w.alloc o) g gw rb v b l m:=by
 refine h.keep (by simp) (Below.heap_alloc w o g h.lt) (Below.heap_alloc w o gw h.win.lt) (fun k hk=>Below.heap_alloc w o k ?_)
 exact (h.row.lt k hk).2
theorem DecAt.drewN (h:DecAt w g gw rb v b l m) (n:Nat):DecAt (w.drewN n) g gw rb v b l m:=h.keep (Nat.le_refl _) rfl rfl (fun _ _=>rfl)
end
def FS (g gw:Nat) (v:Value):Nat→Prop:=fun i=>i=g∨i=gw∨v.ownBlock=some i
theorem DecAt.hold {w w1:World} {g gw rb:Nat} {v:Value} {b:B4} {l:List Int} {m:M} (h:DecAt w g gw rb v b l m) (x:Int) {r c:Nat} (hown:w1.ownsRow rb 31 1 (.slice (some ⟨r,0,none⟩) (l.length+1) c) (l++[x]).length (u32s (l++[x]))) (hg:w.grownBy w1 v.ownBlock) (hr:r≠g):
  DecAt (w1.setCell ⟨g,4,none⟩ (.slice (some ⟨r,0,none⟩) (l.length+1) c)) g gw rb (.slice (some ⟨r,0,none⟩) (l.length+1) c) b (l++[x]) m∧Chg (FS g gw v) w (w1.setCell ⟨g,4,none⟩ (.slice (some ⟨r,0,none⟩) (l.length+1) c)):=by
 have hgb:w1.heap[g]? =some (.cells (decCells b v gw m) 208 (0,0)):=(hg.block g h.lt (fun e=>h.row_g e.symm)).trans h.blk;refine ⟨⟨?_,?_,?_,fun e=>by simp at e,?_⟩,?_⟩
 ·rw [heap_setCell_same w1 g 4 _ _ _ hgb];rfl
 ·exact (h.win.keep (hg.block gw h.win.lt (fun e=>h.row_gw e.symm))).keep (Below.heap_setCell w1 _ _ gw h.ne_gw)
 ·exact hown.kept (w':=w1.setCell ⟨g,4,none⟩ _) (row:=some g) ⟨rfl,rfl,rfl,by simp [World.setCell],fun k hk hn=>Below.heap_setCell w1 _ _ k (fun e=>hn (by rw [e]))⟩ (.inr (by simp [Value.ownBlock];exact hr))
 ·have:=Nat.le_trans h.rbl hg.size;simpa [World.setCell] using this
 ·exact chg_then (Chg.mono (chg_grown hg) (fun i hi=> .inr (.inr hi))) (Chg.set (S:=FS g gw v) w1 (.inl rfl) 4 _) (fun i _ hi=>hi)
theorem begin_calls {w:World} {g gw rb:Nat} {v:Value} {b:B4} {l:List Int} {m:M} (k n:Int) (h:DecAt w g gw rb v b l m):
  Calls Tryz.prog 279 #[.pointer (some ⟨g,0,none⟩),.int .i64 k,.int .i64 n] w fun e w'=>e= .returned (.bool true)∧w'=(w.setCell ⟨g,8,none⟩ (.int .i64 k)).setCell ⟨g,9,none⟩ (.int .i64 n):=by
 have h8:=h.c8;have h9:=h.c9;have f8:=h.fz 8;have f9:=h.fz 9;clear h;go_enter Tryz.func279,Tryz.ntmps279;go_wp2;go_ret;exact ⟨rfl,rfl⟩
theorem activate_calls {w:World} {g gw rb:Nat} {v:Value} {b:B4} {l:List Int} {m:M} (n:Int) (h:DecAt w g gw rb v b l m):
  Calls Tryz.prog 276 #[.pointer (some ⟨g,0,none⟩),.int .i64 n] w fun e w'=>e= .returned (.bool true)∧w'=((w.setCell ⟨g,7,none⟩ (.int .i64 n)).setCell ⟨g,6,none⟩ (.bool false)).setCell ⟨g,8,none⟩ (.int .i64 0):=by
 have h8:=h.c8;have h7:=h.c7;have h6:=h.c6;have f8:=h.fz 8;have f7:=h.fz 7;have f6:=h.fz 6;clear h;go_enter Tryz.func276,Tryz.ntmps276;go_wp2;go_ret;exact ⟨rfl,rfl⟩
theorem fits_calls {w:World} {g gw rb:Nat} {v:Value} {b:B4} {l:List Int} {m:M} (x:Int) (h:DecAt w g gw rb v b l m):
  Calls Tryz.prog 278 #[.pointer (some ⟨g,0,none⟩),.int .u8 x] w fun e w'=>e= .returned (.bool (m.fits x))∧w=w':=by
 have h11:=h.c11;have hfin:m.fits x=((decide (220≤x)&&decide (x≤223))==(m.upper !=0)):=by
  unfold M.fits low8
  congr 1
  rw [Bool.eq_iff_iff];simp
 rw [hfin]
 clear h hfin
 by_cases h0:220≤x
 ·go_enter Tryz.func278,Tryz.ntmps278
  go_wp2
  all_goals
   go_ret;refine ⟨?_,rfl⟩
   generalize (m.upper !=0)=q
   by_cases h2:x≤223 <;>cases q <;>simp [h0,h2] <;>omega
 ·go_enter Tryz.func278,Tryz.ntmps278
  go_wp2
  all_goals
   go_ret;refine ⟨?_,rfl⟩
   generalize (m.upper !=0)=q
   by_cases h2:x≤223 <;>cases q <;>simp [h0,h2] <;>omega
end Dec
namespace Dec
open Go.RowKit Win Stp Mach
def NextPost (w:World) (g gw rb:Nat) (v:Value) (b:B4) (l:List Int) (r:Option (M×List Int)) (e:Ending) (w':World):Prop:=
 match r with
 |some (m',em)=>e= .returned (.bool true)∧∃v',DecAt w' g gw rb v' b (l++em) m'∧Chg (FS g gw v) w w'
 |none=>e= .returned (.bool false)∧∃m',DecAt w' g gw rb v b l m'∧Chg (FS g gw v) w w'
section
variable {w:World} {g gw rb:Nat} {v:Value} {b:B4} {l:List Int} {m:M}
theorem np_none (h:DecAt w g gw rb v b l m):NextPost w g gw rb v b l none (.returned (.bool false)) w:=⟨rfl,m,h,Chg.refl _⟩
theorem np_of {w':World} {m':M} (h:DecAt w' g gw rb v b l m') (hc:Chg (FS g gw v) w w'):NextPost w g gw rb v b l (some (m',[])) (.returned (.bool true)) w':=⟨rfl,v,by rw [List.append_nil];exact h,hc⟩
theorem np_nof {w':World} {m':M} (h:DecAt w' g gw rb v b l m') (hc:Chg (FS g gw v) w w'):NextPost w g gw rb v b l none (.returned (.bool false)) w':=⟨rfl,m',h,hc⟩
theorem at_begin (h:DecAt w g gw rb v b l m) (k n:Int):DecAt ((w.setCell ⟨g,8,none⟩ (.int .i64 k)).setCell ⟨g,9,none⟩ (.int .i64 n)) g gw rb v b l (m.begin k n):=
 (h.set 8 (.int .i64 k) (b':=b) (m':={m with beg:=k}) rfl rfl).set 9 (.int .i64 n) rfl rfl
theorem chg_g (j:Nat) (u:Value):Chg (FS g gw v) w (w.setCell ⟨g,j,none⟩ u):=Chg.set (S:=FS g gw v) w (.inl rfl) j u
theorem at_act (h:DecAt w g gw rb v b l m) (n:Int):DecAt (((w.setCell ⟨g,7,none⟩ (.int .i64 n)).setCell ⟨g,6,none⟩ (.bool false)).setCell ⟨g,8,none⟩ (.int .i64 0)) g gw rb v b l (m.activate n):=
 ((h.set 7 (.int .i64 n) (b':=b) (m':={m with act:=n}) rfl rfl).set 6 (.bool false) (b':=b) (m':={m with act:=n,uni:=false}) rfl rfl).set 8 (.int .i64 0) rfl rfl
theorem np_begin (h:DecAt w g gw rb v b l m) (k n:Int):NextPost w g gw rb v b l (some (m.begin k n,[])) (.returned (.bool true)) ((w.setCell ⟨g,8,none⟩ (.int .i64 k)).setCell ⟨g,9,none⟩ (.int .i64 n)):=np_of (at_begin h k n) ((chg_g 8 _).trans (chg_g 9 _))
theorem np_act (h:DecAt w g gw rb v b l m) (n:Int):NextPost w g gw rb v b l (some (m.activate n,[])) (.returned (.bool true)) (((w.setCell ⟨g,7,none⟩ (.int .i64 n)).setCell ⟨g,6,none⟩ (.bool false)).setCell ⟨g,8,none⟩ (.int .i64 0)):=np_of (at_act h n) (((chg_g 7 _).trans (chg_g 6 _)).trans (chg_g 8 _))
end
theorem hold_at {w w0:World} {g gw rb:Nat} {v:Value} {b:B4} {l:List Int} {m:M} (x:Int) (a:Nat) (h:DecAt w0 g gw rb v b l m) (ha:w0.heap.size=a) (hw:w=w0.alloc (.cells #[.int .u32 x] 31)) (hl:l.length≤1000000):
  Calls Tryz.prog 234 #[.pointer (some ⟨g,4,none⟩),.slice (some ⟨a,0,none⟩) 1 1] w fun e w'=>e= .returned (.tuple #[])∧∃v',DecAt w' g gw rb v' b (l++[x]) m∧Chg (FS g gw v) w0 w':=by
 subst hw;subst ha;have h1:=h.alloc (.cells #[.int .u32 x] 31)
 refine (hold_calls g 4 rb v l x w0.heap.size _ h1.c4 (h1.fz 4) h1.row h1.rbl h1.row_g (by rw [cell_of (heap_alloc_new w0 _)];rfl) hl).mono ?_;rintro e w' ⟨rfl,r,c,w1,rfl,hown,hg,hat,hr⟩
 obtain ⟨hd,hc⟩:=h1.hold x hown hg hr;exact ⟨rfl,_,hd,chg_then (Chg.alloc w0 _) hc (fun i _ hi=>hi)⟩
theorem hold_one {w w0:World} {g gw rb:Nat} {v:Value} {b:B4} {l:List Int} {m:M} (x:Int) (h:DecAt w0 g gw rb v b l m) (hw:w=w0.alloc (.cells #[.int .u32 x] 31)) (hl:l.length≤1000000):
  Calls Tryz.prog 234 #[.pointer (some ⟨g,4,none⟩),.slice (some ⟨w0.heap.size,0,none⟩) 1 1] w fun e w'=>e= .returned (.tuple #[])∧∃v',DecAt w' g gw rb v' b (l++[x]) m∧Chg (FS g gw v) w0 w':=hold_at x _ h rfl hw hl
set_option maxRecDepth 100000 in
set_option maxHeartbeats 400000 in
theorem single_hi {w:World} {g gw rb:Nat} {v:Value} {b:B4} {l:List Int} {m:M} (x:Int) (h:DecAt w g gw rb v b l m) (hG:Mach.Good m) (x0:128≤x) (x1:x≤255) (hl:l.length≤1000000) (hu:m.upper=0):
  Calls Tryz.prog 275 #[.pointer (some ⟨g,0,none⟩),.int .u8 x] w (NextPost w g gw rb v b l (some (m,[wAt m.o m.act+x-128]))):=by
 have h11:=h.c11;have H:=Lib.hid h;have HGd:=Lib.hid hG;have h5:=h.c5;have h7:=h.c7;clear h hG;have hub:(m.upper !=0)=false:=by simp [hu]
 have k12:(x==12)=false:=by rw [beq_eq_false_iff_ne];omega
 clear hu;have hr:=HGd.out.at_ HGd.out.act.1 HGd.out.act.2;have hat:∀n:Nat,Calls Tryz.prog 215 #[.pointer (some ⟨gw,0,none⟩),.int .i64 m.act] (w.drewN n) fun e w'=>e= .returned (.int .u32 (wAt m.o m.act))∧w'=w.drewN n:=fun n=>(at_calls gw m.o used0 m.act (w.drewN n) (H.out.win.keep rfl)).mono fun e w' h=>⟨h.1,h.2.symm⟩
 obtain ⟨y,hy⟩:∃y,y=wAt m.o m.act:=⟨_,rfl⟩
 rw [←hy] at hr hat ⊢;have HAT:=Lib.hid hat;obtain ⟨y0,y1⟩:=hr;clear hy hat;go_enter Tryz.func275,Tryz.ntmps275;have w1:IntKind.u32.wrap x=x:=by rw [IntKind.wrap_u32];omega
 have w2:IntKind.u32.wrap (y+x)=y+x:=by rw [IntKind.wrap_u32];omega
 have w3:IntKind.u32.wrap (y+x-128)=y+x-128:=by rw [IntKind.wrap_u32];omega
 go_wp2_with fail;go_region_with (first|(go_at_call 215;refine (HAT.out 0).mono ?_;rintro e w1 ⟨rfl,rfl⟩)|(go_at_call 215;refine (HAT.out 1).mono ?_;rintro e w1 ⟨rfl,rfl⟩)|(go_at_call 234;refine (hold_one (y+x-128) (H.out.drewN 1) rfl hl).mono ?_;rintro e w1 ⟨rfl,hd⟩;have HD:=Lib.hid hd;clear hd))
 all_goals
  go_wp2_with fail;go_ret;obtain ⟨v',hd,hc⟩:=HD.out;exact ⟨rfl,v',hd,(Chg.drewN w 1).trans hc⟩
set_option maxHeartbeats 4000000 in
theorem single_calls {w:World} {g gw rb:Nat} {v:Value} {b:B4} {l:List Int} {m:M} (x:Int) (h:DecAt w g gw rb v b l m) (hG:Mach.Good m) (x0:0≤x) (x1:x≤255) (hl:l.length≤1000000):
  Calls Tryz.prog 275 #[.pointer (some ⟨g,0,none⟩),.int .u8 x] w (NextPost w g gw rb v b l (Mach.single m x)):=by
 have h11:=h.c11;have H:=Lib.hid h;have HGd:=Lib.hid hG;have h5:=h.c5;have h6:=h.c6;have h7:=h.c7;have f6:=h.fz 6;clear h hG
 by_cases hu:m.upper=0
 rotate_left
 ·have hub:(m.upper !=0)=true:=by simp [hu]
  by_cases h14:x=14
  ·subst h14
   have hs:Mach.single m 14=some (m.begin 5 0,[]):=by unfold Mach.single;rw [if_neg (by simp),if_neg (by decide),if_neg (by decide),if_neg (by decide),if_neg (by decide),if_neg (by decide),if_pos rfl]
   rw [hs]
   clear hs;clear hu;go_enter Tryz.func275,Tryz.ntmps275;go_wp2_with (go_at_call 279;refine (begin_calls _ _ H.out).mono ?_;rintro e w1 ⟨rfl,rfl⟩)
   go_ret;exact np_begin H.out _ _
  ·have hb:(x !=14)=true:=by simp [h14]
   have hs:Mach.single m x=none:=by unfold Mach.single;rw [if_pos (.inl ⟨hu,h14⟩)]
   rw [hs]
   clear hs;clear hu h14;go_enter Tryz.func275,Tryz.ntmps275;go_wp2_with fail;go_ret;exact np_none H.out
 have hub:(m.upper !=0)=false:=by simp [hu]
 by_cases h12:x=12
 ·subst h12
  have hs:Mach.single m 12=none:=by unfold Mach.single;rw [if_pos (.inr rfl)]
  rw [hs]
  clear hs;clear hu;go_enter Tryz.func275,Tryz.ntmps275;go_wp2_with fail;go_ret;exact np_none H.out
 have k12:(x==12)=false:=by rw [beq_eq_false_iff_ne];exact h12
 have hq:¬((m.upper≠0∧x≠14)∨x=12):=by omega
 clear hu
 by_cases h128:128≤x
 ·have hs:Mach.single m x=some (m,[wAt m.o m.act+x-128]):=by unfold Mach.single;rw [if_neg hq,if_pos h128]
  rw [hs]
  exact single_hi x H.out HGd.out h128 x1 hl (by simpa using hub)
 by_cases hp:pass x=true
 ·have hs:Mach.single m x=some (m,[x]):=by unfold Mach.single;rw [if_neg hq,if_neg h128,if_pos hp]
  rw [hs]
  have hpp:=hp;simp only [pass,Bool.or_eq_true,decide_eq_true_eq] at hpp;have hcs:32≤x∨x=0∨x=9∨x=10∨x=13:=by omega
  clear hs hq h12 hp hpp;rcases hcs with hc|rfl|rfl|rfl|rfl
  all_goals
   go_enter Tryz.func275,Tryz.ntmps275;go_wp2_with (go_at_call 234;refine (hold_one _ H.out rfl hl).mono ?_;rintro e w1 ⟨rfl,hd⟩;have HD:=Lib.hid hd;clear hd)
   go_ret;exact ⟨rfl,HD.out⟩
 have hpp:=hp;simp only [pass,Bool.or_eq_true,decide_eq_true_eq,not_or] at hpp;obtain ⟨⟨⟨⟨p32,p0⟩,p9⟩,p10⟩,p13⟩:=hpp;have k0:(x==0)=false:=by rw [beq_eq_false_iff_ne];exact p0
 have k9:(x==9)=false:=by rw [beq_eq_false_iff_ne];exact p9
 have k10:(x==10)=false:=by rw [beq_eq_false_iff_ne];exact p10
 have k13:(x==13)=false:=by rw [beq_eq_false_iff_ne];exact p13
 by_cases h24:24≤x
 ·skip
  have hs:Mach.single m x=some (m.begin 2 (x-24),[]):=by unfold Mach.single;rw [if_neg hq,if_neg h128,if_neg hp,if_pos h24]
  rw [hs]
  clear hs;clear hq hp p0 p9 p10 p13 h12;go_enter Tryz.func275,Tryz.ntmps275;go_wp2_with (go_at_call 279;refine (begin_calls _ _ H.out).mono ?_;rintro e w1 ⟨rfl,rfl⟩)
  go_ret;exact np_begin H.out _ _
 by_cases h16:16≤x
 ·skip
  have hs:Mach.single m x=some (m.activate (x-16),[]):=by unfold Mach.single;rw [if_neg hq,if_neg h128,if_neg hp,if_neg h24,if_pos h16]
  rw [hs]
  clear hs;clear hq hp p0 p9 p10 p13 h12;go_enter Tryz.func275,Tryz.ntmps275;go_wp2_with (go_at_call 276;refine (activate_calls _ H.out).mono ?_;rintro e w1 ⟨rfl,rfl⟩)
  go_ret;exact np_act H.out _
 by_cases h15:x=15
 ·skip
  have hs:Mach.single m x=some ({m with uni:=true},[]):=by unfold Mach.single;rw [if_neg hq,if_neg h128,if_neg hp,if_neg h24,if_neg h16,if_pos h15]
  rw [hs]
  clear hs;clear hq hp p0 p9 p10 p13 h12;subst h15;go_enter Tryz.func275,Tryz.ntmps275;go_wp2_with fail;go_ret;exact np_of (H.out.set 6 (.bool true) rfl rfl) (chg_g 6 _)
 have k15:(x==15)=false:=by rw [beq_eq_false_iff_ne];exact h15
 by_cases h14:x=14
 ·skip
  have hs:Mach.single m x=some (m.begin 5 0,[]):=by unfold Mach.single;rw [if_neg hq,if_neg h128,if_neg hp,if_neg h24,if_neg h16,if_neg h15,if_pos h14]
  rw [hs]
  clear hs;clear hq hp p0 p9 p10 p13 h12;subst h14;go_enter Tryz.func275,Tryz.ntmps275;go_wp2_with (go_at_call 279;refine (begin_calls _ _ H.out).mono ?_;rintro e w1 ⟨rfl,rfl⟩)
  go_ret;exact np_begin H.out _ _
 have k14:(x==14)=false:=by rw [beq_eq_false_iff_ne];exact h14
 by_cases h11x:x=11
 ·skip
  have hs:Mach.single m x=some (m.begin 3 0,[]):=by unfold Mach.single;rw [if_neg hq,if_neg h128,if_neg hp,if_neg h24,if_neg h16,if_neg h15,if_neg h14,if_pos h11x]
  rw [hs]
  clear hs;clear hq hp p0 p9 p10 p13 h12;subst h11x;go_enter Tryz.func275,Tryz.ntmps275;go_wp2_with (go_at_call 279;refine (begin_calls _ _ H.out).mono ?_;rintro e w1 ⟨rfl,rfl⟩)
  go_ret;exact np_begin H.out _ _
 have k11:(x==11)=false:=by rw [beq_eq_false_iff_ne];exact h11x
 have hs:Mach.single m x=some (m.begin 1 (x-1),[]):=by unfold Mach.single;rw [if_neg hq,if_neg h128,if_neg hp,if_neg h24,if_neg h16,if_neg h15,if_neg h14,if_neg h11x]
 rw [hs]
 have x1x:1≤x:=by omega
 clear hs h15 h14 h11x hq hp p0 p9 p10 p13 h12;go_enter Tryz.func275,Tryz.ntmps275;go_wp2_with (go_at_call 279;refine (begin_calls _ _ H.out).mono ?_;rintro e w1 ⟨rfl,rfl⟩)
 go_ret;exact np_begin H.out _ _
set_option maxHeartbeats 4000000 in
theorem double_calls {w:World} {g gw rb:Nat} {v:Value} {b:B4} {l:List Int} {m:M} (x:Int) (h:DecAt w g gw rb v b l m) (x0:0≤x) (x1:x≤255):
  Calls Tryz.prog 274 #[.pointer (some ⟨g,0,none⟩),.int .u8 x] w (NextPost w g gw rb v b l (Mach.double m x)):=by
 have h11:=h.c11;have H:=Lib.hid h;have h10:=h.c10;have f10:=h.fz 10;clear h
 by_cases hr:x<224∨242<x
 ·have h10':=H.out.set 10 (.int .u8 x) (b':=b) (m':={m with first:=x}) rfl rfl
  have hf:=fits_calls x h10';have H10:=Lib.hid h10';have e:({m with first:=x}:M).fits x=m.fits x:=rfl;rw [e] at hf;clear h10' e
  cases hfx:m.fits x with
  |true=>
   have hs:Mach.double m x=some (({m with first:=x}:M).begin 6 0,[]):=by unfold Mach.double;rw [if_pos hr,if_pos hfx]
   rw [hs]
   rw [hfx] at hf;clear hs hfx;rcases hr with hr|hr
   ·go_enter Tryz.func274,Tryz.ntmps274
    go_wp2_with (first|(go_at_call 278;refine hf.mono ?_;rintro e w1 ⟨rfl,rfl⟩)|(go_at_call 279;refine (begin_calls _ _ H10.out).mono ?_;rintro e w1 ⟨rfl,rfl⟩))
    go_ret;exact np_of (at_begin H10.out 6 0) (((chg_g 10 _).trans (chg_g 8 _)).trans (chg_g 9 _))
   ·have hr':¬x<224:=by omega
    go_enter Tryz.func274,Tryz.ntmps274;go_wp2_with (first|(go_at_call 278;refine hf.mono ?_;rintro e w1 ⟨rfl,rfl⟩)|(go_at_call 279;refine (begin_calls _ _ H10.out).mono ?_;rintro e w1 ⟨rfl,rfl⟩))
    go_ret;exact np_of (at_begin H10.out 6 0) (((chg_g 10 _).trans (chg_g 8 _)).trans (chg_g 9 _))
  |false=>
   have hs:Mach.double m x=none:=by unfold Mach.double;rw [if_pos hr,if_neg (by rw [hfx];decide)]
   rw [hs]
   rw [hfx] at hf;clear hs hfx;rcases hr with hr|hr
   ·go_enter Tryz.func274,Tryz.ntmps274
    go_wp2_with (go_at_call 278;refine hf.mono ?_;rintro e w1 ⟨rfl,rfl⟩)
    go_ret;exact np_nof H10.out (chg_g 10 _)
   ·have hr':¬x<224:=by omega
    go_enter Tryz.func274,Tryz.ntmps274;go_wp2_with (go_at_call 278;refine hf.mono ?_;rintro e w1 ⟨rfl,rfl⟩)
    go_ret;exact np_nof H10.out (chg_g 10 _)
 have r1:¬x<224:=fun e=>hr (.inl e)
 have r2:¬242<x:=fun e=>hr (.inr e)
 by_cases h240:x=240
 ·skip
  have hs:Mach.double m x=some (m.begin 5 0,[]):=by unfold Mach.double;rw [if_neg hr,if_pos h240]
  rw [hs]
  clear hs;clear hr;subst h240;go_enter Tryz.func274,Tryz.ntmps274;go_wp2_with (go_at_call 279;refine (begin_calls _ _ H.out).mono ?_;rintro e w1 ⟨rfl,rfl⟩)
  go_ret;exact np_begin H.out _ _
 have k240:(x==240)=false:=by rw [beq_eq_false_iff_ne];exact h240
 by_cases hu:m.upper=0
 rotate_left
 ·have hub:(m.upper !=0)=true:=by simp [hu]
  have hs:Mach.double m x=none:=by unfold Mach.double;rw [if_neg hr,if_neg h240,if_pos (.inl hu)]
  rw [hs]
  clear hs;clear hr hu h240;go_enter Tryz.func274,Tryz.ntmps274;go_wp2_with fail;go_ret;exact np_none H.out
 have hub:(m.upper !=0)=false:=by simp [hu]
 by_cases h242:x=242
 ·skip
  have hs:Mach.double m x=none:=by unfold Mach.double;rw [if_neg hr,if_neg h240,if_pos (.inr h242)]
  rw [hs]
  clear hs;clear hr hu h240;subst h242;go_enter Tryz.func274,Tryz.ntmps274;go_wp2_with fail;go_ret;exact np_none H.out
 have k242:(x==242)=false:=by rw [beq_eq_false_iff_ne];exact h242
 have hq:¬(m.upper≠0∨x=242):=by omega
 by_cases h241:x=241
 ·skip
  have hs:Mach.double m x=some (m.begin 3 0,[]):=by unfold Mach.double;rw [if_neg hr,if_neg h240,if_neg hq,if_pos h241]
  rw [hs]
  clear hs;clear hr hu h240 h242 hq;subst h241;go_enter Tryz.func274,Tryz.ntmps274;go_wp2_with (go_at_call 279;refine (begin_calls _ _ H.out).mono ?_;rintro e w1 ⟨rfl,rfl⟩)
  go_ret;exact np_begin H.out _ _
 have k241:(x==241)=false:=by rw [beq_eq_false_iff_ne];exact h241
 by_cases h232:232≤x
 ·skip
  have hs:Mach.double m x=some (m.begin 2 (x-232),[]):=by unfold Mach.double;rw [if_neg hr,if_neg h240,if_neg hq,if_neg h241,if_pos h232]
  rw [hs]
  clear hs;clear hr hu h240 h242 hq h241;go_enter Tryz.func274,Tryz.ntmps274;go_wp2_with (go_at_call 279;refine (begin_calls _ _ H.out).mono ?_;rintro e w1 ⟨rfl,rfl⟩)
  go_ret;exact np_begin H.out _ _
 have hs:Mach.double m x=some (m.activate (x-224),[]):=by unfold Mach.double;rw [if_neg hr,if_neg h240,if_neg hq,if_neg h241,if_neg h232]
 rw [hs]
 clear hs hr hu h240 h242 hq h241;go_enter Tryz.func274,Tryz.ntmps274;go_wp2_with (go_at_call 276;refine (activate_calls _ H.out).mono ?_;rintro e w1 ⟨rfl,rfl⟩)
 go_ret;exact np_act H.out _
end Dec
namespace Dec
open Go.RowKit Win Stp Mach
theorem DecAt.drew {w:World} {g gw rb:Nat} {v:Value} {b:B4} {l:List Int} {m:M} (h:DecAt w g gw rb v b l m):DecAt w.drew g gw rb v b l m:=h.keep (Nat.le_refl _) rfl rfl (fun _ _=>rfl)
theorem hold_in {w:World} {g gw rb:Nat} {v:Value} {b:B4} {l:List Int} {m:M} (x:Int) (a:Nat) (h:DecAt w g gw rb v b l m) (ha:w.cell? ⟨a,0,none⟩=some (.int .u32 x)) (hl:l.length≤1000000):
  Calls Tryz.prog 234 #[.pointer (some ⟨g,4,none⟩),.slice (some ⟨a,0,none⟩) 1 1] w fun e w'=>e= .returned (.tuple #[])∧∃v',DecAt w' g gw rb v' b (l++[x]) m∧Chg (FS g gw v) w w':=by
 refine (hold_calls g 4 rb v l x a _ h.c4 (h.fz 4) h.row h.rbl h.row_g ha hl).mono ?_;rintro e w' ⟨rfl,r,c,w1,rfl,hown,hg,hat,hr⟩
 obtain ⟨hd,hc⟩:=h.hold x hown hg hr;exact ⟨rfl,_,hd,hc⟩
theorem and1023 (x:Int) (h0:0≤x) (h1:x<4294967296):bits .and .u32 x 1023=x%1024:=bits_mask .u32 32 (by decide) wraps_u32 10 (by decide) x h0 h1
def WholePost (w:World) (g gw rb:Nat) (v:Value) (b:B4) (l:List Int) (r:M×List Int) (e:Ending) (w':World):Prop:=e= .returned (.bool true)∧∃v',DecAt w' g gw rb v' b (l++r.2) r.1∧Chg (FS g gw v) w w'
set_option maxRecDepth 100000 in
set_option maxHeartbeats 1000000 in
theorem whole_calls {w:World} {g gw rb:Nat} {v:Value} {b:B4} {l:List Int} {m:M} (u:Int) (h:DecAt w g gw rb v b l m) (hG:Mach.Good m) (u0:0≤u) (u1:u≤65535) (hl:l.length≤1000000):
  Calls Tryz.prog 280 #[.pointer (some ⟨g,0,none⟩),.int .u32 u] w (WholePost w g gw rb v b l (Mach.whole m u)):=by
 have h11:=h.c11;have f11:=h.fz 11;have h8:=h.c8;have f8:=h.fz 8;have hup:=hG.upper;have h1:=h.set 8 (.int .i64 0) (b':=b) (m':={m with beg:=0}) rfl rfl;have H1:=Lib.hid h1;have H:=Lib.hid h;have HGd:=Lib.hid hG;clear h hG h1
 by_cases hu:m.upper=0
 ·have hub:(m.upper !=0)=false:=by simp [hu]
  by_cases hc:55296≤u∧u<56320
  ·have hs:Mach.whole m u=({m with beg:=0,upper:=u},[]):=by unfold Mach.whole;rw [if_neg (by simp [hu]),if_pos hc]
   rw [hs]
   obtain ⟨a1,a2⟩:=hc;clear hs hu hup;go_enter Tryz.func280,Tryz.ntmps280;go_wp2_with fail;go_ret;exact ⟨rfl,v,by rw [List.append_nil];exact H1.out.set 11 (.int .u32 u) (b':=b) (m':={m with beg:=0,upper:=u}) rfl rfl,(chg_g 8 _).trans (chg_g 11 _)⟩
  ·have hs:Mach.whole m u=({m with beg:=0},[u]):=by unfold Mach.whole;rw [if_neg (by simp [hu]),if_neg hc]
   rw [hs]
   have hcs:u<55296∨(55296≤u∧¬u<56320):=by omega
   clear hs hu hup hc;rcases hcs with hc|⟨hc,hd⟩
   all_goals
    go_enter Tryz.func280,Tryz.ntmps280;go_wp2_with (go_at_call 234;refine (hold_at _ _ H1.out (by simp [World.setCell]) rfl hl).mono ?_;rintro e w1 ⟨rfl,hd⟩;have HD:=Lib.hid hd;clear hd)
    go_ret;obtain ⟨v',hd,hc⟩:=HD.out;exact ⟨rfl,v',hd,(chg_g 8 _).trans hc⟩
 ·have hub:(m.upper !=0)=true:=by simp [hu]
  have hs:Mach.whole m u=({m with beg:=0,upper:=0},[65536+m.upper%1024*1024+u%1024]):=by unfold Mach.whole;rw [if_pos hu]
  rw [hs]
  obtain ⟨y,hy⟩:∃y,y=m.upper:=⟨_,rfl⟩
  have hup':55296≤y∧y<56320:=by omega
  obtain ⟨p0,p1⟩:=hup';rw [←hy] at h11 hub ⊢;clear hs hu hup hy;have m1:=and1023 y (by omega) (by omega)
  have m2:=and1023 u (by omega) (by omega)
  have e1:IntKind.u32.wrap (IntKind.u32.wrap (65536+IntKind.u32.wrap (bits BinOp.and IntKind.u32 y 1023*1024))+bits BinOp.and IntKind.u32 u 1023)=65536+y%1024*1024+u%1024:=by
   rw [m1,m2]
   simp only [IntKind.wrap_u32]
   omega
  have E1:=Lib.hid e1;clear m1 m2 e1;have hsz:(w.setCell ⟨g,8,none⟩ (.int .i64 0)).heap.size=w.heap.size:=by simp [World.setCell]
  have HSZ:=Lib.hid hsz;clear hsz;go_enter Tryz.func280,Tryz.ntmps280;go_wp2_with fail;go_region_with (go_at_call 234;rw [E1.out];refine (hold_in (65536+y%1024*1024+u%1024) _ (H1.out.alloc (.cells #[.int .u32 (65536+y%1024*1024+u%1024)] 31)).drew (by show World.cell? (World.alloc _ _) _=_;rw [←HSZ.out,cell_of (heap_alloc_new _ _)];rfl) hl).mono ?_;rintro e w1 ⟨rfl,hd⟩;obtain ⟨v',hd,hc⟩:=hd;have hh11:=hd.c11;have hf11:=hd.fz 11;have HD:=Lib.hid hd;have HC:=Lib.hid hc;clear hd hc)
  all_goals
   go_wp2_with fail;go_ret;exact ⟨rfl,_,HD.out.set 11 (.int .u32 0) (b':=b) (m':={m with beg:=0,upper:=0}) rfl rfl,((chg_g 8 _).trans (chg_then (Chg.alloc _ _) ((Chg.drew _).trans HC.out) (fun i _ hi=>hi))).trans (chg_g 11 _)⟩
end Dec
namespace Win
open Go.RowKit
theorem extended_calls (h l:Int) (w:World) (h0:0≤h) (h1:h≤255) (l0:0≤l) (l1:l≤255):Calls Tryz.prog 277 #[.int .u8 h,.int .u8 l] w fun e w'=>e= .returned (.tuple #[.int .i64 (h/32),.int .u32 (65536+128*(h%32*256+l))])∧w=w':=by
 have or1:bits .or .u32 (h%32*256) l=h%32*256+l:=bits_join .u32 32 (by decide) wraps_u32 8 (h%32*256) l (by omega) (by omega) (by omega) (by omega) (by omega) (by omega)
 have HO:=Lib.hid or1;clear or1;go_enter Tryz.func277,Tryz.ntmps277;go_wp2;go_ret2;exact ⟨by simp only [HO.out];simp;omega,rfl⟩
def wPair (n c:Int):Int×Int×Bool:=if 0≤n∧n<8∧65536≤c∧c≤1114111 then (n*32+(c-65536)/128/256,(c-65536)/128%256,true) else (0,0,false)
theorem pair_calls (n c:Int) (w:World) (h0:0≤c) (h1:c≤4294967295):Calls Tryz.prog 221 #[.int .i64 n,.int .u32 c] w fun e w'=>e= .returned (.tuple #[.int .u8 (wPair n c).1,.int .u8 (wPair n c).2.1,.bool (wPair n c).2.2])∧w=w':=by
 by_cases ha:0≤n∧n<8∧65536≤c∧c≤1114111
 ·have he:wPair n c=(n*32+(c-65536)/128/256,(c-65536)/128%256,true):=by unfold wPair;rw [if_pos ha]
  rw [he]
  obtain ⟨a1,a2,a3,a4⟩:=ha;have a5:0≤c-65536:=by omega
  have or1:bits .or .u8 (n*32) ((c-65536)/128/256)=n*32+(c-65536)/128/256:=bits_join .u8 8 (by decide) wraps_u8 5 (n*32) _ (by omega) (by omega) (by omega) (by omega) (by omega) (by omega)
  have HO:=Lib.hid or1;clear or1 he;go_enter Tryz.func221,Tryz.ntmps221;go_wp2;go_ret3;exact ⟨by simp only [HO.out];simp,rfl⟩
 ·have he:wPair n c=(0,0,false):=by unfold wPair;rw [if_neg ha]
  rw [he]
  clear he
  by_cases b1:0≤n
  ·by_cases b2:n<8
   ·by_cases b3:65536≤c
    ·have b4:¬c≤1114111:=by omega
     clear ha;go_enter Tryz.func221,Tryz.ntmps221;go_wp2;go_ret3;exact ⟨rfl,rfl⟩
    ·clear ha
     go_enter Tryz.func221,Tryz.ntmps221;go_wp2;go_ret3;exact ⟨rfl,rfl⟩
   ·clear ha
    go_enter Tryz.func221,Tryz.ntmps221;go_wp2;go_ret3;exact ⟨rfl,rfl⟩
  ·clear ha
   go_enter Tryz.func221,Tryz.ntmps221;go_wp2;go_ret3;exact ⟨rfl,rfl⟩
end Win
namespace Dec
open Go.RowKit Win Stp Mach
section
variable {w w':World} {g gw rb:Nat} {v:Value} {b:B4} {l:List Int} {m:M}
theorem DecAt.below (h:DecAt w g gw rb v b l m) (hb:Below w.heap.size w w'):DecAt w' g gw rb v b l m:=h.keep hb.size (hb.block g h.lt) (hb.block gw h.win.lt) (fun k hk=>hb.block k (h.row.lt k hk).2)
theorem DecAt.wins {o:List Int} (h:DecAt w g gw rb v b l m) (hw:WinAt w' gw o used0) (hc:Chg (·=gw) w w'):DecAt w' g gw rb v b l {m with o:=o}:=by
 have hne:=h.ne_gw;have h1:=h.row_gw;have h2:∀k,v.ownBlock=some k→w'.heap[k]? =w.heap[k]? :=fun k hk=>hc.block k (h.row.lt k hk).2 (fun e=>h1 (by rw [hk,e]))
 obtain ⟨a1,a2⟩:=h.row;refine ⟨(hc.block g h.lt (fun e=>hne e.symm)).trans h.blk,hw,⟨a1,?_⟩,h.nil,Nat.le_trans h.rbl hc.size⟩
 rcases a2 with a2|⟨g',cap,cur,hv,hb,hh,r⟩
 ·exact .inl a2
 ·exact .inr ⟨g',cap,cur,hv,hb,(h2 g' (by rw [hv];rfl)).trans hh,r⟩
theorem chg_gw (hc:Chg (·=gw) w w'):Chg (FS g gw v) w w':=hc.mono (fun i hi=> .inr (.inl hi))
end
set_option maxRecDepth 100000 in
set_option maxHeartbeats 4000000 in
theorem more_1 {w:World} {g gw rb:Nat} {v:Value} {b:B4} {l:List Int} {m:M} (x:Int) (h:DecAt w g gw rb v b l m) (hG:Mach.Good m) (x0:0≤x) (x1:x≤255) (hl:l.length≤1000000) (hbeg:m.beg=1):
  Calls Tryz.prog 273 #[.pointer (some ⟨g,0,none⟩),.int .u8 x] w (NextPost w g gw rb v b l (Mach.more m x)):=by
 have h5:=h.c5;have h8:=h.c8;have h9:=h.c9;rw [hbeg] at h8;have hn:=hG.n;have hst:=static_rng hn.1 hn.2;have hat:=hG.at_ hn.1 hn.2;have hs:=fun w=>static_calls m.n w
 have hwat:∀k:Nat,Calls Tryz.prog 215 #[.pointer (some ⟨gw,0,none⟩),.int .i64 m.n] (w.drewN k) fun e w'=>e= .returned (.int .u32 (wAt m.o m.n))∧w'=w.drewN k:=fun k=>(at_calls gw m.o used0 m.n (w.drewN k) (h.win.keep rfl)).mono fun e w' h=>⟨h.1,h.2.symm⟩
 have H:=Lib.hid h;obtain ⟨z,hz⟩:∃z,z=(wStatic m.n).1:=⟨_,rfl⟩
 obtain ⟨y,hy⟩:∃y,y=wAt m.o m.n:=⟨_,rfl⟩
 have hr:Mach.more m x=some ({m with beg:=0},[if 128≤x then y-128+x else z+x]):=by unfold Mach.more;rw [if_pos hbeg,hz,hy]
 rw [hr]
 rw [←hz] at hst hs;rw [←hy] at hat hwat;have HS:=Lib.hid hs;have HWAT:=Lib.hid hwat;obtain ⟨z0,z1⟩:=hst;obtain ⟨y0,y1⟩:=hat;have w1:IntKind.u32.wrap (y-128)=y-128:=by rw [IntKind.wrap_u32];omega
 clear h hG hn hs hwat hr hz hy hbeg
 by_cases hx:128≤x
 ·rw [if_pos hx]
  go_enter Tryz.func273,Tryz.ntmps273;go_wp2_with fail;refine (HS.out _).mono ?_;rintro e w2 ⟨rfl,rfl⟩
  go_wp2_with fail;go_quiet ((go_at_call 215;exact Calls.quiet_of_same (HWAT.out _)))
  go_wp2_with (go_at_call 234;refine (hold_in (y-128+x) _ ((H.out.drewN nq).alloc (.cells #[.int .u32 (y-128+x)] 31)) ((cell_of (show ((w.drewN nq).alloc (.cells #[.int .u32 (y-128+x)] 31)).heap[w.heap.size]? =_ from heap_alloc_new (w.drewN nq) _) 0).trans rfl) hl).mono ?_;rintro e w3 ⟨rfl,hd⟩;obtain ⟨v',hd,hc⟩:=hd;have hh8:=hd.c8;have hf8:=hd.fz 8;have HD:=Lib.hid hd;have HC:=Lib.hid hc;clear hd hc)
  go_ret;exact ⟨rfl,_,HD.out.set 8 (.int .i64 0) rfl rfl,((Chg.drewN _ _).trans (chg_then (Chg.alloc _ _) HC.out (fun i _ hi=>hi))).trans (chg_g 8 _)⟩
 ·rw [if_neg hx]
  go_enter Tryz.func273,Tryz.ntmps273;go_wp2_with fail;refine (HS.out _).mono ?_;rintro e w2 ⟨rfl,rfl⟩
  go_wp2_with (go_at_call 234;refine (hold_in (z+x) _ (H.out.alloc (.cells #[.int .u32 (z+x)] 31)) (by rw [cell_of (heap_alloc_new _ _)];rfl) hl).mono ?_;rintro e w3 ⟨rfl,hd⟩;obtain ⟨v',hd,hc⟩:=hd;have hh8:=hd.c8;have hf8:=hd.fz 8;have HD:=Lib.hid hd;have HC:=Lib.hid hc;clear hd hc)
  go_ret;exact ⟨rfl,_,HD.out.set 8 (.int .i64 0) rfl rfl,((chg_then (Chg.alloc _ _) HC.out (fun i _ hi=>hi))).trans (chg_g 8 _)⟩
set_option maxRecDepth 100000 in
set_option maxHeartbeats 4000000 in
theorem more_2 {w:World} {g gw rb:Nat} {v:Value} {b:B4} {l:List Int} {m:M} (x:Int) (h:DecAt w g gw rb v b l m) (hG:Mach.Good m) (x0:0≤x) (x1:x≤255) (hl:l.length≤1000000) (hbeg:m.beg=2):
  Calls Tryz.prog 273 #[.pointer (some ⟨g,0,none⟩),.int .u8 x] w (NextPost w g gw rb v b l (Mach.more m x)):=by
 have h8:=h.c8;rw [hbeg] at h8;have hn:=hG.n;have hs:=fun w=>offset_calls x w x0 x1
 have H:=Lib.hid h;obtain ⟨o,ok,hok⟩:∃o ok,wOffset x=(o,ok):=⟨_,_,rfl⟩
 rw [hok] at hs;have HS:=Lib.hid hs
 cases ok with
 |false=>
  have hr:Mach.more m x=none:=by unfold Mach.more;rw [if_neg (by rw [hbeg];decide),if_pos hbeg,hok];rfl
  rw [hr]
  clear h hG hn hs hr hok hbeg;go_enter Tryz.func273,Tryz.ntmps273;go_wp2_with fail;refine (HS.out _).mono ?_;rintro e w2 ⟨rfl,hb⟩
  have HB:=Lib.hid hb;clear hb;go_wp2_with fail;go_ret;exact np_nof (H.out.below HB.out) (Chg.of_below HB.out)
 |true=>
  have hr:Mach.more m x=some (({m with o:=m.o.set m.n.toNat o}:M).activate m.n,[]):=by unfold Mach.more;rw [if_neg (by rw [hbeg];decide),if_pos hbeg,hok,if_pos rfl]
  rw [hr]
  obtain ⟨n,hnn⟩:∃n,n=m.n:=⟨_,rfl⟩
  rw [←hnn] at hn ⊢;have HNN:=Lib.hid hnn;obtain ⟨n0,n1⟩:=hn;clear h hG hs hr hok hbeg hnn;go_enter Tryz.func273,Tryz.ntmps273;go_wp2_with fail;refine (HS.out _).mono ?_;rintro e w2 ⟨rfl,hb⟩
  have hd2:=H.out.below hb;have HB:=Lib.hid hb;have q5:=hd2.c5;have q9:=hd2.c9;rw [←HNN.out] at q9;have HD2:=Lib.hid hd2;clear hb hd2;go_wp2_with fail;have hset:∀w3:World,WinAt w3 gw m.o used0→Calls Tryz.prog 223 #[.pointer (some ⟨gw,0,none⟩),.int .i64 n,.int .u32 o] w3 fun e w'=>e= .returned (.tuple #[])∧WinAt w' gw (m.o.set n.toNat o) used0∧Chg (·=gw) w3 w':=by
   intro w3 hw3;have:=set_calls gw m.o used0 n o w3 hw3;rw [if_pos ⟨n0,n1⟩] at this;exact this
  have HSET:=Lib.hid hset;clear hset;go_region_with (go_at_call 223;refine (HSET.out _ (HD2.out.drewN 1).win).mono ?_;rintro e w3 ⟨rfl,hw3,hc3⟩;have hd3:=(HD2.out.drewN 1).wins hw3 hc3;have r9:=hd3.c9;simp only [←HNN.out] at r9;have HD3:=Lib.hid hd3;have HC3:=Lib.hid hc3;clear hw3 hc3 hd3)
  all_goals
   go_wp2_with (go_at_call 276;refine (activate_calls _ HD3.out).mono ?_;rintro e w4 ⟨rfl,rfl⟩)
   go_ret;obtain rfl:=HNN.out;exact np_of (at_act HD3.out _) ((((Chg.of_below HB.out).trans (Chg.drewN _ _)).trans (chg_gw HC3.out)).trans (((chg_g 7 _).trans (chg_g 6 _)).trans (chg_g 8 _)))
end Dec
end Go.Proofs.YtooiooledeblmaaGreat
