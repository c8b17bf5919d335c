/- The compressor: what it asks of a scalar. The compressor: bytes given; a scalar in a window, by itself, by units. puny.denoted of a text. codec.Decode by Punycode. The compressor: a scalar by itself, by units, by a static window. -/
import Derived.Test.YtooiooledeblmaaGreatZ17
import Derived.Laws.BitsAllLaws
import Derived.Deep.CutBlock
import Derived.Deep.DeepCutAuto
import Derived.Test.YtooiooledeblmaaGreatShelf
import Derived.Deep.QuietTactic
set_option linter.unusedVariables false
set_option linter.unusedSimpArgs false
namespace Go.Proofs.YtooiooledeblmaaGreat
namespace Enc
open Go.RowKit Win Stp Go.Proofs.YtooiooledeblmaaGreatW.PrintMore
attribute [local go_sem] max2_int min2_int max_two min_two
def passB (c:Int):Bool:=(decide (32≤c)&&decide (c<128))||decide (c=0)||decide (c=9)||decide (c=10)||decide (c=13)
theorem passB_iff {c:Int}:passB c=true↔(32≤c∧c<128)∨c=0∨c=9∨c=10∨c=13:=by
 unfold passB;simp;omega
def tagB (c:Int):Bool:=decide (57344≤c)&&decide (c≤62207)
def easyB (o:List Int) (c:Int):Bool:=(wFind o c).2||decide (c<128)
def softB (o:List Int) (d:Int):Bool:=(d==2147483648)||easyB o d
def ownC (c:Int):Int×Bool:=if 65536≤c then (c/128*128,true) else ((wOffset (wIndex c).1).1,(wIndex c).2)
def twinsB (c d:Int):Bool:=(ownC c).2&&(d !=2147483648)&&hld (ownC c).1 d
theorem andNot127 (c:Nat) (h:c<4294967296):c&&&4294967168=c/128*128:=by
 have e1:(4294967168:Nat)=(2^25-1)<<<7:=by decide
 have e2:c/128*128=(c>>>7)<<<7:=by rw [Nat.shiftRight_eq_div_pow,Nat.shiftLeft_eq]
 apply Nat.eq_of_testBit_eq;intro i;rw [Nat.testBit_and,e1,e2,Nat.testBit_shiftLeft,Nat.testBit_shiftLeft,Nat.testBit_two_pow_sub_one,Nat.testBit_shiftRight]
 by_cases h7:7≤i
 ·have e3:7+(i-7)=i:=by omega
  rw [e3]
  by_cases h32:i<32
  ·simp [h7,show i-7<25 by omega]
  ·have:c.testBit i=false:=Nat.testBit_lt_two_pow (Nat.lt_of_lt_of_le h (Nat.pow_le_pow_right (n:=2) (i:=32) (by decide) (by omega)))
   simp [this]
 ·simp [h7]
theorem andNot_int (c:Int) (h0:0≤c) (h1:c<4294967296):bits .andNot .u32 c 127=c/128*128:=by
 rw [u32_andNot c 127 h0 h1 (by decide) (by decide)]
 have:=andNot127 c.toNat (by omega)
 simp only [show (127:Int).toNat=127 from rfl,show 4294967295-127=4294967168 from rfl]
 rw [this]
 omega
theorem passes_calls (c:Int) (w:World):Calls Tryz.prog 213 #[.int .u32 c] w fun e w'=>e= .returned (.bool (passB c))∧w=w':=by
 by_cases h:(32≤c∧c<128)∨c=0∨c=9∨c=10∨c=13
 ·rw [passB_iff.2 h]
  have hcs:(32≤c∧c<128)∨(c<32∧c=0)∨(c<32∧c=9)∨(c<32∧c=10)∨(c<32∧c=13):=by omega
  clear h;rcases hcs with ⟨h1,h2⟩|⟨h1,rfl⟩|⟨h1,rfl⟩|⟨h1,rfl⟩|⟨h1,rfl⟩
  all_goals
   go_enter Tryz.func213,Tryz.ntmps213;go_wp2;go_ret;exact ⟨rfl,rfl⟩
 ·have e:passB c=false:=by rw [←Bool.not_eq_true,passB_iff];exact h
  rw [e]
  have k0:(c==0)=false:=by rw [beq_eq_false_iff_ne];omega
  have k9:(c==9)=false:=by rw [beq_eq_false_iff_ne];omega
  have k10:(c==10)=false:=by rw [beq_eq_false_iff_ne];omega
  have k13:(c==13)=false:=by rw [beq_eq_false_iff_ne];omega
  have hcs:c<32∨(32≤c∧128≤c):=by omega
  clear h e;rcases hcs with h1|⟨h1,h2⟩
  all_goals
   go_enter Tryz.func213,Tryz.ntmps213;go_wp2;go_ret
   first
   |exact ⟨rfl,rfl⟩
   |(refine ⟨?_,rfl⟩;simp [k0,k9,k10,k13];done)
   |(refine ⟨?_,rfl⟩;simp;omega)
theorem tagged_calls (c:Int) (w:World):Calls Tryz.prog 212 #[.int .u32 c] w fun e w'=>e= .returned (.bool (tagB c))∧w=w':=by
 unfold tagB
 by_cases h1:57344≤c
 ·go_enter Tryz.func212,Tryz.ntmps212
  go_wp2;go_ret;exact ⟨by simp [h1],rfl⟩
 ·go_enter Tryz.func212,Tryz.ntmps212
  go_wp2;go_ret;refine ⟨?_,rfl⟩
  rw [decide_eq_false (by omega)]
  rfl
section
variable {w:World} {g gw:Nat} {b:B4} {l:List Int} {m:E}
theorem easy_calls (c:Int) (h:EncAt w g gw b l m) (hr:Rng m.o) (h0:0≤c) (h1:c≤4294967295):Calls Tryz.prog 206 #[.pointer (some ⟨g,0,none⟩),.int .u32 c] w fun e w'=>e= .returned (.bool (easyB m.o c))∧w=w':=by
 have h6:=h.c6;have HF:=Lib.hid (find_calls gw m.o m.u c w h.win hr h0 h1)
 unfold easyB;clear h;generalize wFind m.o c=r at HF ⊢;obtain ⟨n,x⟩:=r
 cases x
 all_goals
  go_enter Tryz.func206,Tryz.ntmps206;go_wp2_with (go_at_call 208;refine HF.out.mono ?_;rintro e w1 ⟨rfl,rfl⟩)
  go_ret;exact ⟨by simp,rfl⟩
theorem soft_calls (d:Int) (h:EncAt w g gw b l m) (hr:Rng m.o) (h0:0≤d) (h1:d≤4294967295):Calls Tryz.prog 207 #[.pointer (some ⟨g,0,none⟩),.int .u32 d] w fun e w'=>e= .returned (.bool (softB m.o d))∧w=w':=by
 have HE:=Lib.hid (easy_calls d h hr h0 h1)
 unfold softB;clear h
 cases hd:(d==2147483648)
 ·go_enter Tryz.func207,Tryz.ntmps207
  go_wp2_with (go_at_call 206;refine HE.out.mono ?_;rintro e w1 ⟨rfl,rfl⟩)
  go_ret;exact ⟨by simp,rfl⟩
 ·go_enter Tryz.func207,Tryz.ntmps207
  go_wp2_with (go_at_call 206;refine HE.out.mono ?_;rintro e w1 ⟨rfl,rfl⟩)
  go_ret;exact ⟨by simp,rfl⟩
end
theorem idxFrom_lt {c:Int}:∀{l:List Int} {k n:Nat},idxFrom c k l=some n→n<k+l.length
 |[],k,n,h=>by cases h
 |x::l,k,n,h=>by
  unfold idxFrom at h
  split at h
  ·injection h with h
   rw [←h,List.length_cons];omega
  ·have:=idxFrom_lt h
   rw [List.length_cons];omega
theorem idx_rng {c:Int} (h0:0≤c) (h1:c≤4294967295):0≤(wIndex c).1∧(wIndex c).1≤255:=by
 unfold wIndex
 split
 ·rename_i n hn
  have:=idxFrom_lt hn;have h7:specials.length=7:=rfl;simp only;omega
 ·split
  ·simp only;omega
  ·split
   ·simp only;omega
   ·simp
def OwnPost (w:World) (c:Int) (e:Ending) (w':World):Prop:=e= .returned (.tuple #[.int .u32 (ownC c).1,.bool (ownC c).2])∧Below w.heap.size w w'
theorem own_calls (c:Int) (w:World) (h0:0≤c) (h1:c≤4294967295):Calls Tryz.prog 219 #[.int .u32 c] w (OwnPost w c):=by
 unfold OwnPost ownC
 by_cases hc:65536≤c
 ·have e:=andNot_int c h0 (by omega)
  rw [if_pos hc]
  go_enter Tryz.func219,Tryz.ntmps219;go_wp2;go_ret2;exact ⟨rfl,Below.refl _ _⟩
 ·rw [if_neg hc]
  have hr:=idx_rng h0 h1;have HI:=Lib.hid (index_calls c w h0 h1)
  generalize wIndex c=r at hr HI ⊢;obtain ⟨x,ok⟩:=r;simp only at hr;have HO:=Lib.hid (fun w=>offset_calls x w hr.1 hr.2)
  generalize wOffset x=r at HO ⊢;obtain ⟨o,ok2⟩:=r;clear hr;go_enter Tryz.func219,Tryz.ntmps219;go_wp2_with fail;refine HI.out.mono ?_;rintro e w1 ⟨rfl,hb⟩
  have HB:=Lib.hid hb;clear hb;go_wp2_with fail;refine (HO.out _).mono ?_;rintro e w2 ⟨rfl,hb⟩
  have HB2:=Lib.hid hb;clear hb;go_wp2_with fail;go_ret2;exact ⟨rfl,HB.out.trans ⟨HB2.out.os,HB2.out.tape,HB2.out.output,HB2.out.size,fun i hi=>HB2.out.block i (Nat.lt_of_lt_of_le hi HB.out.size)⟩⟩
end Enc
namespace Enc
open Go.RowKit Win Stp Go.Proofs.YtooiooledeblmaaGreatW.PrintMore
attribute [local go_sem] max2_int min2_int max_two min_two
theorem str_extract (l:List Int) (a b:Nat):(strOfNums l).extract a b=strOfNums ((l.drop a).take (b-a)):=by
 have:((strOfNums l).extract a b).data=(strOfNums ((l.drop a).take (b-a))).data:=by
  rw [ByteArray.data_extract]
  simp [strOfNums]
 cases h1:((strOfNums l).extract a b)
 cases h2:strOfNums ((l.drop a).take (b-a))
 rw [h1,h2] at this;simp only at this;rw [this]
def clipN (room:Int) (n:Nat):Nat:=if room<0 then 0 else if room<n then room.toNat else n
section
variable {w:World} {g gw:Nat} {b:B4} {l:List Int} {m:E}
theorem kept_calls (h:EncAt w g gw b l m) (hl:l.length≤1000000):Calls Tryz.prog 142 #[.pointer (some ⟨g,4,none⟩)] w fun e w'=>e= .returned (.int .i64 l.length)∧w=w':=by
 have h4:=h.c4;have s1:=str_size l;generalize strOfNums l=A at*;clear h;rw [←s1] at hl ⊢;clear s1;go_enter Tryz.func142,Tryz.ntmps142;go_wp2;go_ret;exact ⟨rfl,rfl⟩
theorem give_calls (room:Int) (h:EncAt w g gw b l m) (hl:l.length≤1000000):Calls Tryz.prog 144 #[.pointer (some ⟨g,4,none⟩),.int .i64 room] w fun e w'=>e= .returned (.string (strOfNums (l.take (clipN room l.length))))∧w'=w.setCell ⟨g,4,none⟩ (.string (strOfNums (l.drop (clipN room l.length)))):=by
 have h4:=h.c4;have f4:=h.fz 4;have s1:=str_size l;obtain ⟨n,hn⟩:∃n,n=clipN room l.length:=⟨_,rfl⟩
 have e1:=str_extract l 0 n;have e2:=str_extract l n l.length;rw [←s1] at e2;have t1:(l.drop 0).take (n-0)=l.take n:=by simp
 have t2:(l.drop n).take ((strOfNums l).size-n)=l.drop n:=by rw [s1,List.take_of_length_le (by rw [List.length_drop];exact Nat.le_refl _)]
 rw [t1] at e1;rw [t2] at e2;have hnn:(n:Int)=if (if room<0 then 0 else room)<(strOfNums l).size then (if room<0 then 0 else room) else (strOfNums l).size:=by
  rw [hn,s1]
  unfold clipN
  repeat' (first|omega|split)
 have hle:n≤(strOfNums l).size:=by rw [s1,hn];unfold clipN;repeat' (first|omega|split)
 rw [←hn]
 have hsz:(strOfNums l).size≤1000000:=by omega
 generalize strOfNums l=A at*;obtain ⟨B1,hB1⟩:∃B,B=strOfNums (l.take n):=⟨_,rfl⟩
 obtain ⟨B2,hB2⟩:∃B,B=strOfNums (l.drop n):=⟨_,rfl⟩
 rw [←hB1] at e1 ⊢;rw [←hB2] at e2 ⊢;have HN:=Lib.hid hnn;clear h t1 t2 s1 hl hn hB1 hB2 hnn;go_enter Tryz.func144,Tryz.ntmps144;go_upto_region 1 with fail;go_cut [5] (fun v wx=>v= .int .i64 n∧w=wx)
 case first=>
  go_wp2_with fail
  all_goals
   go_meet;refine ⟨?_,rfl⟩
   rw [HN.out]
   congr 1
   repeat' (first|omega|split)
 case rest=>
  obtain ⟨rfl,rfl⟩:=hcut;go_wp2_with fail;go_ret;exact ⟨rfl,rfl⟩
theorem held_calls (n c:Int) (h:EncAt w g gw b l m) (h0:0≤wAt m.o n) (h1:wAt m.o n≤c) (h2:c-wAt m.o n<128) (h3:c≤1114111):
  Calls Tryz.prog 216 #[.pointer (some ⟨g,0,none⟩),.int .i64 n,.int .u32 c] w fun e w'=>e= .returned (.int .u8 (128+c-wAt m.o n))∧w=w':=by
 have h6:=h.c6;have HA:=Lib.hid (at_calls gw m.o m.u n w h.win)
 clear h;generalize wAt m.o n=x at*;go_enter Tryz.func216,Tryz.ntmps216;go_wp2_with (go_at_call 215;refine HA.out.mono ?_;rintro e w1 ⟨rfl,rfl⟩)
 go_ret;exact ⟨rfl,rfl⟩
def UsePost (w:World) (g gw:Nat) (b:B4) (l:List Int) (m:E) (n:Int) (e:Ending) (w':World):Prop:=e= .returned (.tuple #[])∧EncAt w' g gw b l {m with act:=n,u:=wTouch m.u n}∧Chg (EFS g gw) w w'
theorem use_calls (n:Int) (h:EncAt w g gw b l m) (hm:0≤n→n<8→n∈m.u):Calls Tryz.prog 209 #[.pointer (some ⟨g,0,none⟩),.int .i64 n] w (UsePost w g gw b l m n):=by
 have h8:=h.c8;have f8:=h.fz 8;have hs:=h.set 8 (.int .i64 n) (b':=b) (l':=l) (m':={m with act:=n}) rfl rfl rfl;have h6:=hs.c6;have HT:=Lib.hid (touch_calls gw m.o m.u n _ hs.win hm)
 have HS:=Lib.hid hs;clear h hs;go_enter Tryz.func209,Tryz.ntmps209;go_wp2_with fail;refine HT.out.mono ?_;rintro e w1 ⟨rfl,hw,hc⟩
 have HW:=Lib.hid hw;have HC:=Lib.hid hc;clear hw hc;go_wp2_with fail;go_end0;exact ⟨rfl,HS.out.wins HW.out HC.out,(efs_g 8 _).trans (efs_gw HC.out)⟩
end
theorem off_rng {x:Int} (h0:0≤x) (h1:x≤255):0≤(wOffset x).1∧(wOffset x).1≤65408:=by
 have key:∀b:Fin 256,0≤(wOffset (b.val:Int)).1∧(wOffset (b.val:Int)).1≤65408:=by decide +kernel
 have:=key ⟨x.toNat,by omega⟩
 simp only [Int.toNat_of_nonneg h0] at this;exact this
theorem own_rng {c:Int} (h0:0≤c) (h1:c≤4294967295):0≤(ownC c).1∧(ownC c).1≤4294967295:=by
 unfold ownC
 split
 ·simp only;omega
 ·have hr:=idx_rng h0 h1
  have:=off_rng hr.1 hr.2;simp only;omega
theorem twins_calls (c d:Int) (w:World) (h0:0≤c) (h1:c≤4294967295) (h2:0≤d) (h3:d≤4294967295):Calls Tryz.prog 210 #[.int .u32 c,.int .u32 d] w fun e w'=>e= .returned (.bool (twinsB c d))∧Below w.heap.size w w':=by
 have HO:=Lib.hid (own_calls c w h0 h1)
 have hrg:0≤(ownC c).1∧(ownC c).1≤4294967295:=own_rng h0 h1;unfold OwnPost at HO;unfold twinsB;generalize ownC c=r at HO hrg ⊢;obtain ⟨o,ok⟩:=r;obtain ⟨r1,r2⟩:=hrg;have HH:=Lib.hid (fun w=>holds_calls o d w r1 r2 h2 h3)
 cases ok
 ·go_enter Tryz.func210,Tryz.ntmps210
  go_wp2_with fail;refine HO.out.mono ?_;rintro e w1 ⟨rfl,hb⟩
  have HB:=Lib.hid hb;clear hb;go_wp2_with fail;go_ret;exact ⟨rfl,HB.out⟩
 ·cases hd:(d !=2147483648)
  ·go_enter Tryz.func210,Tryz.ntmps210
   go_wp2_with fail;refine HO.out.mono ?_;rintro e w1 ⟨rfl,hb⟩
   have HB:=Lib.hid hb;clear hb;go_wp2_with fail;go_ret;exact ⟨rfl,HB.out⟩
  ·go_enter Tryz.func210,Tryz.ntmps210
   go_wp2_with fail;refine HO.out.mono ?_;rintro e w1 ⟨rfl,hb⟩
   have HB:=Lib.hid hb;clear hb;go_wp2_with fail;refine (HH.out _).mono ?_;rintro e w2 ⟨rfl,rfl⟩
   go_wp2_with fail;go_ret;exact ⟨rfl,HB.out⟩
end Enc
namespace Pun
open Go.RowKit Win Stp Lst Out Dec Dcd
theorem data_at (s:ByteArray) (j:Nat) (hj:j<s.size):((s.data[j]!).toNat:Int)=(byt s).getD j 0:=by
 rw [byt_at s j hj,getElem!_pos s.data j hj]
 rfl
theorem last_none {S:List Int} (hr:∀x∈S,0≤x∧x≤255) (h:∀x∈S,x≠45):Lib.lastIndexByte (strOfNums S) 45= -1:=by
 have hb:=byt_nums hr;have hsz:=str_size S;rcases Lib.lastIndexByte_spec (strOfNums S) 45 with ⟨h1,_⟩|⟨i,hi,_,h2,_⟩
 ·exact h1
 ·rw [data_at _ i hi,hb] at h2
  rw [hsz] at hi;exact absurd h2 (h _ (by rw [List.getD_eq_getElem?_getD,List.getElem?_eq_getElem hi];exact List.getElem_mem _))
theorem last_some {A R:List Int} (hr:∀x∈A++45::R,0≤x∧x≤255) (h:∀x∈R,x≠45):Lib.lastIndexByte (strOfNums (A++45::R)) 45=(A.length:Int):=by
 have hb:=byt_nums hr;have hsz:=str_size (A++45::R)
 have hat:∀j,A.length<j→j<(A++45::R).length→(A++45::R).getD j 0∈R:=fun j h1 h2=>by
  rw [List.getD_eq_getElem?_getD,List.getElem?_append_right (by omega),show j-A.length=(j-A.length-1)+1 by omega,List.getElem?_cons_succ]
  rw [List.length_append,List.length_cons] at h2;rw [List.getElem?_eq_getElem (by omega)]
  exact List.getElem_mem _
 have hA:(A++45::R).getD A.length 0=45:=by
  rw [List.getD_eq_getElem?_getD,List.getElem?_append_right (Nat.le_refl _)]
  simp
 have hlen:A.length<(A++45::R).length:=by rw [List.length_append,List.length_cons];omega
 rcases Lib.lastIndexByte_spec (strOfNums (A++45::R)) 45 with ⟨_,h2⟩|⟨i,hi,h1,h2,h3⟩
 ·have:=h2 A.length (by rw [hsz];exact hlen)
  rw [data_at _ _ (by rw [hsz];exact hlen),hb] at this;exact absurd hA this
 ·rw [h1]
  rw [data_at _ i hi,hb] at h2;rw [hsz] at hi;rcases Nat.lt_trichotomy i A.length with h4|h4|h4
  ·have:=h3 A.length h4 (by rw [hsz];exact hlen)
   rw [data_at _ _ (by rw [hsz];exact hlen),hb] at this;exact absurd hA this
  ·rw [h4]
  ·exact absurd h2 (h _ (hat i h4 hi))
theorem runs_len {D:List Int} {n i b:Int} {once:Bool} {R out:List Int} (h:Runs D n i b once R out):D.length≤out.length:=by
 induction h with
 |nil=>exact Nat.le_refl _
 |step D n i b once d tl out m p _ _ _ _ _ _ _ _ hp _ _ _ ih=>
  rw [ins_len hp] at ih;omega
theorem runs_cases {D:List Int} {n i b:Int} {once:Bool} {R out:List Int} (h:Runs D n i b once R out):(R=[]∧D=out)∨∃(d:Int) (tl:List Int) (m:Int) (p:Nat),R=putS d b++tl∧0≤d∧d<100000000000∧0≤b∧b≤1000∧0≤n∧0≤i∧i+d=(m-n)*((D.length:Int)+1)+p∧n≤m∧p≤D.length∧m≤1114111∧isB m=true∧
  Runs (ins D p m) m ((p:Int)+1) (adaptS d ((D.length:Int)+1) once) false tl out:=by
 cases h with
 |nil=>exact .inl ⟨rfl,rfl⟩
 |step _ _ _ _ _ d tl out m p h1 h2 h3 h4 h5 h6 h7 h8 h9 h10 h11 h12=>exact .inr ⟨d,tl,m,p,rfl,h1,h2,h3,h4,h5,h6,h7,h8,h9,h10,h11,h12⟩
theorem div_place {q S p:Int} (h0:0≤q) (hS:0<S) (hp:0≤p) (hpS:p<S):Int.tdiv (q*S+p) S=q∧Int.tmod (q*S+p) S=p:=by
 have h1:0≤q*S:=Int.mul_nonneg h0 (by omega)
 rw [Int.tdiv_eq_ediv_of_nonneg (by omega),Int.tmod_eq_emod_of_nonneg (by omega),Int.add_comm,Int.add_mul_ediv_right _ _ (by omega),Int.add_mul_emod_self_right,Int.ediv_eq_zero_of_lt hp hpS,Int.emod_eq_of_lt hp hpS]
 omega
def DenPost (l:List Int) (w:World) (e:Ending) (w':World):Prop:=∃A c,e= .returned (.tuple #[.slice A l.length c,.bool true])∧w'.ownsRow w.heap.size 31 1 (.slice A l.length c) l.length (u32s l)∧Below w.heap.size w w'∧(l=[]→A=none∧c=0)
def DnRel1 (w:World) (B:Nat) (L:List Int) (v21 v4:Value) (wr:World):Prop:=∃k:Nat,k≤L.length∧v21= .int .i64 k∧wr.ownsRow B 31 1 v4 (L.take k).length (u32s (L.take k))∧Below B w wr
def DnMid (w:World) (B:Nat) (L R:List Int) (v0 v4:Value) (wr:World):Prop:=v0= .string (strOfNums R)∧wr.ownsRow B 31 1 v4 L.length (u32s L)∧Below B w wr∧(L=[]→v4= .slice none 0 0)
def DnRel2 (w:World) (B:Nat) (R l:List Int) (v4 v7 v8 v9 v10 v11:Value) (wr:World):Prop:=
 ∃(D pre tl:List Int) (n i b:Int) (once:Bool),R=pre++tl∧v10= .int .i64 (pre.length:Nat)∧v7= .int .u64 n∧v8= .int .u64 i∧v9= .int .i64 b∧v11= .bool once∧wr.ownsRow B 31 1 v4 D.length (u32s D)∧Below B w wr∧Runs D n i b once tl l∧(D=[]→v4= .slice none 0 0)
set_option maxHeartbeats 8000000 in
set_option maxRecDepth 100000 in
theorem denoted_calls {l:List Int} (hl:l.length≤60) (hs:∀x∈l,0≤x∧isB x=true) (w:World):Calls Tryz.prog 253 #[.string (strOfNums (textP l))] w (DenPost l w):=by
 obtain ⟨R,hR,hruns⟩:=textP_runs hl hs;have htr:=textP_rng hl hs;have htl:=textP_len l hl (fun x hx=>(isB_iff.1 (hs x hx).2).1)
 have hRr:=runs_rng hruns;have hll:(low l).length≤l.length:=List.length_filter_le _ _;have hlow:∀x∈low l,0≤x∧x<128:=fun x hx=>by
  unfold low at hx;rw [List.mem_filter,decide_eq_true_eq] at hx;exact ⟨(hs x hx.1).1,hx.2⟩
 have hst0:start0 l=low l++if 0<(low l).length then [45] else []:=rfl
 rw [hR] at htr htl ⊢;rw [hst0] at htr htl ⊢;generalize low l=L at hruns hlow hll htr htl ⊢;clear hR hst0 hs;obtain ⟨B,hB⟩:∃B,B=w.heap.size:=⟨_,rfl⟩
 have HB:=Lib.hid hB;have HRun:=Lib.hid hruns;have hnil:w.ownsRow B 31 1 (.slice none 0 0) 0 (u32s []):=World.ownsRow_nil _ _ _ _;have HN:=Lib.hid hnil;have hRl:R.length≤721:=by rw [List.length_append] at htl;omega
 have h46:∀x∈R,x≠45:=fun x hx=>by have:=hRr x hx;omega
 have hRsz:=str_size R;have HRsz:=Lib.hid hRsz;have hRr2:∀x∈R,0≤x∧x≤255:=fun x hx=>by have:=hRr x hx;omega
 have HRr:=Lib.hid hRr2;have hcase:∃(s:ByteArray) (P:Int),s=strOfNums (L++(if 0<L.length then [45] else [])++R)∧Lib.lastIndexByte s 45=P∧s.size≤1000∧((0<L.length∧P=(L.length:Int)∧L.length+1≤s.size∧s.extract (L.length+1) s.size=strOfNums R∧∀j,(hj:j<s.size)→j<L.length→(s[j].toNat:Int)=L.getD j 0)∨(L=[]∧P= -1∧s=strOfNums R)):=by
  refine ⟨_,_,rfl,rfl,by rw [str_size];omega,?_⟩
  by_cases h0:0<L.length
  ·rw [if_pos h0] at htr htl ⊢
   rw [List.append_assoc,List.singleton_append] at htr htl ⊢;have hlast:=last_some (A:=L) (R:=R) (fun x hx=>by have:=htr x hx;omega) h46;have hby:=byt_nums (xs:=L++45::R) (fun x hx=>by have:=htr x hx;omega)
   have hsz:=str_size (L++45::R)
   refine .inl ⟨h0,hlast,by rw [hsz,List.length_append,List.length_cons];omega,?_,fun j hj h=>?_⟩
   ·rw [hsz,str_extract]
    congr 1
    rw [List.drop_append,List.drop_of_length_le (by omega)]
    simp only [List.nil_append,Nat.add_sub_cancel_left,List.drop_succ_cons,List.drop_zero,List.length_append,List.length_cons]
    rw [List.take_of_length_le (by omega)]
   ·rw [←byt_at _ j hj,hby,List.getD_eq_getElem?_getD,List.getD_eq_getElem?_getD,List.getElem?_append_left h]
  ·obtain rfl:L=[]:=List.eq_nil_of_length_eq_zero (by omega)
   refine .inr ⟨rfl,?_,rfl⟩
   exact last_none hRr2 h46
 obtain ⟨s,P,hsd,hlast,hs2,hcs⟩:=hcase;rw [←hsd]
 have hli:=Tryz.strings_LastIndexByte s 45 (by omega) w;rw [hlast] at hli;have HLi:=Lib.hid hli;have HCs:=Lib.hid hcs;have HLow:=Lib.hid hlow;clear hli hlast htr htl hlow hruns hB hnil hRr hRsz hRr2 h46 hsd hcs;go_enter Tryz.func253,Tryz.ntmps253;go_upto_if 19 with (go_at_call 254;refine HLi.out.mono ?_;rintro e w1 ⟨rfl,hw⟩;have hw:=hw.symm;subst hw)
 go_cut [0,4,6] from 19 to 36 (fun v0 v4 v6 wx=>DnMid w B L R v0 v4 wx)
 case first=>
  rcases HCs.out with ⟨h0,rfl,hs1,hex,hat⟩|⟨hL,rfl,hsR⟩
  ·have h0i:(0:Int)<(L.length:Int):=by omega
   have HAt:=Lib.hid hat;have HEx:=Lib.hid hex;clear hat hex;go_wp2_with fail;go_loopw [21,4,6] (fun v21 v4 v6 wr=>DnRel1 w B L v21 v4 wr) (fun v21 _ _ _=>L.length-(intOf v21).toNat)
   case atStart=>exact ⟨0,Nat.zero_le _,rfl,HN.out,Below.refl _ _⟩
   case round=>
    obtain ⟨k,hk,rfl,hown,hbel⟩:=hrel;have HO:=Lib.hid hown;have HBel:=Lib.hid hbel;clear hown hbel
    by_cases hlt:k<L.length
    ·have hks:k<s.size:=by omega
     have hx:=HAt.out k hks hlt;have hx01:=HLow.out (L.getD k 0) (by rw [List.getD_eq_getElem?_getD,List.getElem?_eq_getElem hlt];exact List.getElem_mem _)
     have htk:L.take (k+1)=L.take k++[L.getD k 0]:=by rw [List.take_succ_eq_append_getElem hlt,List.getD_eq_getElem?_getD,List.getElem?_eq_getElem hlt];rfl
     have HTk:=Lib.hid htk;clear htk;generalize L.getD k 0=x at hx hx01 HTk;obtain ⟨x0,x1⟩:=hx01;have wx:IntKind.u32.wrap ((s[k].toNat:Int))=x:=by rw [hx,IntKind.wrap_u32];omega
     have hlx:Lst (wr.alloc (.cells #[.int .u32 x] 31)) .u32 (some ⟨wr.heap.size,0,none⟩) [x]:=fun j hj=>by
      obtain rfl:j=0:=by simpa using hj
      refine ⟨_,rfl,?_⟩
      show World.cell? _ ⟨wr.heap.size,0+0,none⟩=_
      rw [cell_of (heap_alloc_new _ _)]
      rfl
     have HLx:=Lib.hid hlx;have HOa:=Lib.hid (HO.out.alloc (.cells #[.int .u32 x] 31))
     have hBw:B≤wr.heap.size:=by have h:=HBel.out.size;rw [←HB.out] at h;exact h
     have HBel2:=Lib.hid (HBel.out.alloc hBw (.cells #[.int .u32 x] 31))
     have hBw2:B≤(wr.alloc (.cells #[.int .u32 x] 31)).heap.size:=by simp;omega
     have HBw2:=Lib.hid hBw2;have htl:(L.take k).length=k:=by rw [List.length_take];omega
     have HTl:=Lib.hid htl;clear hlx hBw2 hx htl hBw;go_wp2_with (at_builtin;refine app_lst rfl rfl _ _ rfl B _ (L.take k) rfl HOa.out _ _ [x] rfl HLx.out (fun h=>nomatch h) (by rw [HTl.out,List.length_singleton];omega) HBw2.out ?_;intro A' c' w3 h1 h2 h3;have H1:=Lib.hid h1;have H2:=Lib.hid h2;clear h1 h2 h3)
     go_roundw
     case rel=>
      refine ⟨k+1,hlt,by go_num,?_,HBel2.out.grown H2.out HBw2.out (fun i hi=>(HOa.out.lt i hi).1)⟩
      rw [HTk.out]
      have h:=H1.out;have e:(L.take k++[x]).length=k+1:=by rw [List.length_append,HTl.out];rfl
      rw [e] at h ⊢;exact h
     case measure=>simp [intOf];omega
    ·obtain rfl:k=L.length:=by omega
     have ho:=HO.out;rw [List.take_length] at ho;have HO2:=Lib.hid ho;clear ho HO;have hex2:=HEx.out;generalize hRs:strOfNums R=SR at hex2;have HRs:=Lib.hid hRs;clear hRs;go_wp2_with fail;go_meet;exact ⟨by rw [HRs.out],HO2.out,HBel.out,fun h=>by rw [h] at h0;exact absurd h0 (by decide)⟩
  ·have HsR:=Lib.hid hsR
   have HL0:=Lib.hid hL;clear hsR hL;go_wp2_with fail;go_meet;obtain rfl:=HL0.out;exact ⟨by rw [HsR.out],HN.out,Below.refl _ _,fun _=>rfl⟩
 case rest=>
  obtain ⟨rfl,hown,hbel,hln⟩:=hcut;have HLn:=Lib.hid hln;have HO:=Lib.hid hown;have HBel:=Lib.hid hbel;obtain ⟨SR,hSR⟩:∃SR,SR=strOfNums R:=⟨_,rfl⟩
  have HSR:=Lib.hid hSR;have hRz:SR.size=R.length:=by rw [hSR,str_size]
  rw [←hSR]
  clear hown hbel hln HLi HCs HLow hSR hs2;generalize decide (0<P)=zz;go_wp2_with fail;go_loopw [4,7,8,9,10,11] (fun v4 v7 v8 v9 v10 v11 wr=>DnRel2 w B R l v4 v7 v8 v9 v10 v11 wr) (fun _ _ _ _ v10 _ _=>R.length-(intOf v10).toNat)
  case atStart=>exact ⟨L,[],R,128,0,72,true,rfl,rfl,rfl,rfl,rfl,rfl,HO.out,HBel.out,HRun.out,HLn.out⟩
  case round=>
   obtain ⟨D,pre,tl,n,i,b,once,hRp,rfl,rfl,rfl,rfl,rfl,hown,hbel,hruns,hdn⟩:=hrel;have HDn:=Lib.hid hdn;have HO2:=Lib.hid hown;have HBel2:=Lib.hid hbel;have hD:=runs_len hruns;have hRl2:=congrArg List.length hRp;rw [List.length_append] at hRl2;obtain ⟨A,c,rfl⟩:=owns_form hown;have hBw:B≤wr.heap.size:=by have h:=hbel.size;rw [←HB.out] at h;exact h
   clear hown hbel hdn HO HBel HRun HN HLn;rcases runs_cases hruns with ⟨rfl,hDl⟩|⟨d,tl,m,p,rfl,d0,d1,b0,b1,n0,i0,heq,hnm,hpD,hm1,hmB,hr2⟩
   ·obtain rfl:D=l:=hDl
    have hpl:pre.length=R.length:=by simpa using hRl2.symm
    have hno:¬((pre.length:Int)<(R.length:Int)):=by omega
    clear hruns hRp hRl2;go_wp2_with fail;go_ret2;refine ⟨A,c,rfl,?_,?_,fun h=>?_⟩
    ·rw [←HB.out];exact HO2.out
    ·rw [←HB.out];exact HBel2.out
    ·have h2:=HDn.out h
     injection h2 with h3 h4 h5
     exact ⟨h3,h5⟩
   ·have hget:=fun wy=>get_calls pre tl d b d0 d1 (by rw [←hRp];omega) (by rw [←hRp];exact HRr.out) wy
    rw [←hRp,←HSR.out] at hget;have hpos:=(putS_len d b).1;rw [List.length_append] at hRl2;have hlt:(pre.length:Int)<(R.length:Int):=by omega
    have HGet:=Lib.hid hget;have HR2:=Lib.hid hr2;have HRp:=Lib.hid hRp;have HRl:=Lib.hid hRl2;clear hruns hget hr2 hRp hRl2;go_wp2_with fail;refine (HGet.out _).mono ?_;rintro e w1 ⟨rfl,hb1⟩
    have hbw1:Below B w w1:=HBel2.out.trans (hb1.mono hBw)
    have hBw1:B≤w1.heap.size:=Nat.le_trans hBw hb1.size;have ho1:=own_chg HO2.out (Chg.of_below (S:=fun _=>False) hb1) (fun _ h=>h.elim)
    have hoa:=ho1.alloc (.cells #[.int .u32 m] 31)
    have hlt1:∀j,(Value.slice A D.length c).ownBlock=some j→B≤j∧j<w1.heap.size:=fun j hj=>ho1.lt j hj
    have hIn:=insert_calls (base:=B) (vb:=w1.heap.size) (i:=p) (x:=m) hoa hpD (by omega) (heap_alloc_new _ _) (fun h=>by have:=(hlt1 _ h).2;omega) (by simp;omega)
    have hIs:=fun wy=>sis_calls m wy
    rw [hmB] at hIs;have HIn:=Lib.hid hIn;have HIs:=Lib.hid hIs;have HLt:=Lib.hid hlt1;have HBw:=Lib.hid (hbw1.alloc hBw1 (.cells #[.int .u32 m] 31))
    have HAd:=Lib.hid (fun wy=>adapt_calls d ((D.length:Int)+1) once d0 d1 (by omega) (by omega) wy)
    obtain ⟨q,hq⟩:∃q,q=m-n:=⟨_,rfl⟩
    rw [←hq] at heq;have hq0:0≤q:=by omega
    obtain ⟨e3,e6⟩:=div_place (q:=q) (S:=(D.length:Int)+1) (p:=(p:Int)) hq0 (by omega) (by omega) (by omega)
    have hqm:q*((D.length:Int)+1)≤q*61:=Int.mul_le_mul_of_nonneg_left (by omega) hq0;have hqm0:0≤q*((D.length:Int)+1):=Int.mul_nonneg hq0 (by omega)
    obtain ⟨X,hX⟩:∃X,X=q*((D.length:Int)+1)+p:=⟨_,rfl⟩
    rw [←hX] at heq e3 e6;have e1:IntKind.u64.wrap (i+d)=X:=by rw [heq,u64w (by omega) (by omega)]
    have e0:¬((D.length:Int)+1=0):=by omega
    have e2:IntKind.u64.wrap ((D.length:Int)+1)=(D.length:Int)+1:=u64w (by omega) (by omega)
    have e4:IntKind.u64.wrap q=q:=u64w (by omega) (by omega)
    have e5:IntKind.u64.wrap (n+q)=m:=by rw [u64w (by omega) (by omega)];omega
    have e7:IntKind.u64.wrap (p:Int)=p:=u64w (by omega) (by omega)
    have e8:¬(1114111<m):=by omega
    have e9:IntKind.u32.wrap m=m:=by rw [IntKind.wrap_u32];omega
    clear hq hX heq hqm hqm0 hIn hIs hlt1 hb1 hbw1 ho1 hoa hmB;go_wp2_with fail;refine (HIs.out _).mono ?_;rintro e w2 ⟨rfl,hw⟩
    have hw:=hw.symm;subst hw;go_wp2_with fail;refine HIn.out.mono ?_;rintro e w3 ⟨A3,c3,rfl,ho3,hc3⟩
    have hbw3:Below B w w3:=by
     have h:=HBw.out;rw [HB.out] at h ⊢;exact Chg.below h hc3 (fun j hj=>by have:=(HLt.out j hj).1;rw [←HB.out];exact this)
    have HO3:=Lib.hid ho3;have HBw3:=Lib.hid hbw3;clear ho3 hc3 hbw3;go_wp2_with fail;refine (HAd.out _).mono ?_;rintro e w4 ⟨rfl,hb4⟩
    have HB4:=Lib.hid hb4;clear hb4;go_wp2_with fail;go_roundw
    case rel=>
     refine ⟨ins D p m,pre++putS d b,tl,m,(p:Int)+1,adaptS d ((D.length:Int)+1) once,false,by rw [HRp.out,List.append_assoc],by rw [List.length_append,Int.natCast_add],rfl,by go_num,rfl,rfl,?_,?_,HR2.out,fun h=>by have h2:=ins_len (l:=D) (i:=p) (x:=m) hpD;rw [h] at h2;simp at h2⟩
     ·rw [ins_len hpD]
      exact own_chg HO3.out (Chg.of_below (S:=fun _=>False) HB4.out) (fun _ h=>h.elim)
     ·exact HBw3.out.trans (HB4.out.mono (by have h:=HBw3.out.size;rw [←HB.out] at h;exact h))
    case measure=>simp [intOf];omega
end Pun
namespace Pux
open Go.RowKit Win Stp Mach Dec Lst Out Dcd Pun
def HoldPost (w:World) (g q base:Nat) (l:List Int) (e:Ending) (w':World):Prop:=
 e= .returned (.tuple #[])∧∃A' c' w1,w'=w1.setCell ⟨g,q,none⟩ (.slice A' l.length c')∧w1.ownsRow base 31 1 (.slice A' l.length c') l.length (u32s l)∧Below w.heap.size w w1∧(l=[]→A'=none∧c'=0)
theorem hold_many (g q base:Nat) (l:List Int) (A:Option Addr) (c:Nat) (w:World) (hc:w.cell? ⟨g,q,none⟩=some (.slice none 0 0)) (hf:w.frozen? ⟨g,q,none⟩=false) (hL:Lst w .u32 A l) (hnil:A=none→c=0) (h0:l=[]→A=none∧c=0) (hl:l.length≤100000) (hb:base≤w.heap.size):
  Calls Tryz.prog 234 #[.pointer (some ⟨g,q,none⟩),.slice A l.length c] w (HoldPost w g q base l):=by
 have hglt:g<w.heap.size:=World.block_lt_of_cell? w ⟨g,q,none⟩ hc
 by_cases hl0:l=[]
 ·obtain ⟨rfl,rfl⟩:=h0 hl0
  subst hl0;have fin:HoldPost w g q base [] (.returned (.tuple #[])) (w.setCell ⟨g,q,none⟩ (.slice none 0 0)):=⟨rfl,none,0,w,rfl,World.ownsRow_nil _ _ _ _,Below.refl _ _,fun _=>⟨rfl,rfl⟩⟩
  have HF:=Lib.hid fin;clear fin h0 hL hnil;go_enter Tryz.func234,Tryz.ntmps234;go_wp2;go_end0;exact HF.out
 have HL:=Lib.hid hL;have HC:=Lib.hid hc;have HNil:=Lib.hid hnil;have HL0:=Lib.hid hl0;clear hL hnil h0 hl0;go_enter Tryz.func234,Tryz.ntmps234;go_wp2_with (at_builtin;refine app_lst rfl rfl _ _ rfl base _ ([]:List Int) rfl (World.ownsRow_nil _ _ _ _) _ _ l rfl HL.out HNil.out (by simp;omega) hb ?_;intro A' c' w1 h1 h2 h3;have H1:=Lib.hid h1;have H2:=Lib.hid h2;have hcs1:w1.cell? ⟨g,q,none⟩=_:=(h2.cell_far ⟨g,q,none⟩ hglt (fun e=>nomatch e)).trans HC.out;have hfs1:w1.frozen? ⟨g,q,none⟩=false:=(h2.frozen_far ⟨g,q,none⟩ hglt (fun e=>nomatch e)).trans hf;clear h1 h2 h3)
 go_end0;refine ⟨rfl,A',c',w1,rfl,H1.out,?_⟩
 have h:=H2.out;exact ⟨⟨h.os,h.tape,h.output,h.size,fun i hi=>h.block i hi (fun e=>nomatch e)⟩,fun e=>absurd e HL0.out⟩
theorem done_no {T:TypeId} {w:World} {g rb:Nat} {v:Value} {b:B4} {l:List Int} {rs:List Value} (h:InAt T w g rb v b l rs) (hb:b.going=false) (hl:0<l.length):
  Calls Tryz.prog 228 #[.pointer (some ⟨g,0,none⟩)] w fun e w'=>e= .returned (.bool false)∧w=w':=by
 have hg:=going_calls g b w h.base;obtain ⟨A,c,rfl⟩:=owns_form h.row;have hh:=held_calls g 4 A l.length c w h.c4;have hne:((l.length:Int)==0)=false:=by rw [beq_eq_false_iff_ne];omega
 rw [hb] at hg;clear h hb;go_enter Tryz.func228,Tryz.ntmps228;go_wp2_with (first|(go_at_call 143;refine hg.mono ?_;rintro e w1 ⟨rfl,rfl⟩)|(go_at_call 231;refine hh.mono ?_;rintro e w1 ⟨rfl,rfl⟩))
 go_ret;exact ⟨rfl,rfl⟩
def q2 (n:Nat):B4:={q1 n with fin:=true}
def EndPost (w:World) (g n:Nat) (l:List Int) (e:Ending) (w':World):Prop:=e= .returned (.tuple #[])∧Chg (IS g nilS) w w'∧∃rb v tv,InAt PD w' g rb v (q2 n) l [tv]∧(l=[]→rb=0∧v=nilS)
theorem tx_conv {w:World} {B:Nat} {tv:Value} {S:List Int} (h:TxAt w B tv S):(convert 68 9 tv).run Tryz.prog w= .ok (.string (strOfNums S)) w:=by
 have hcells:=fun g=>h.1.cells (g:=g)
 rcases h.1.2 with ⟨h1,h2⟩|⟨g,cap,cur,h1,hb,hg,_⟩
 ·obtain rfl:S=[]:=List.eq_nil_of_length_eq_zero h2
  rw [h1]
  show (convert 68 9 (.slice none 0 0)).run Tryz.prog w= .ok (.string ByteArray.empty) w
  kernel_rfl
 ·subst h1
  exact run_convert_bytes_arg (P:=Tryz.prog) (w:=w) 68 5 Tryz.underlying68 Tryz.underlying5 g 0 S.length cap S rfl (fun i hi=>by
   have:=hcells g rfl i (.int .u8 (S.getD i 0)) (by unfold u8s;rw [List.getElem?_map,List.getD_eq_getElem?_getD,List.getElem?_eq_getElem hi];rfl)
   rwa [Addr.add_lit] at this) 9 Tryz.underlying9
set_option maxHeartbeats 4000000 in
theorem pdend_calls {w:World} {g B n:Nat} {tv:Value} {l:List Int} (h:InAt PD w g 0 nilS (q1 n) [] [tv]) (ht:TxAt w B tv (textP l)) (hl:l.length≤60) (hs:∀x∈l,0≤x∧isB x=true):
  Calls Tryz.prog 251 #[.pointer (some ⟨g,0,none⟩)] w (EndPost w g n l):=by
 have hcv:=tx_conv ht;have h5:w.cell? ⟨g,5,none⟩=some tv:=h.cell 0;have hgo:=going_calls g _ w h.base;have hge:(q1 n).going=true:=rfl;rw [hge] at hgo;have HGo:=Lib.hid hgo;have H:=Lib.hid h;have hgw:=h.lt;have HDn:=Lib.hid (denoted_calls hl hs w)
 clear hgo hge h ht;obtain ⟨S0,hS0⟩:∃S,S=strOfNums (textP l):=⟨_,rfl⟩
 rw [←hS0] at hcv HDn;clear hS0;go_enter Tryz.func251,Tryz.ntmps251;go_wp2_with fail;refine HGo.out.mono ?_;rintro e w1 ⟨rfl,rfl⟩
 go_wp2_with fail;refine HDn.out.mono ?_;rintro e w1 ⟨A,c,rfl,ho1,hb1,hn1⟩
 have hi1:=H.out.keep hb1.size (hb1.block _ H.out.lt) (fun k hk=>by simp [Value.ownBlock] at hk)
 have hg1:=hi1.lt;have HLst:=Lib.hid (told_own ho1)
 have HB1:=Lib.hid hb1;have HI1:=Lib.hid hi1;have HHd:=Lib.hid (hold_many g 4 w.heap.size l A c w1 hi1.c4 (hi1.fz 4) HLst.out.1 HLst.out.2 hn1 (by omega) hb1.size)
 clear ho1 hb1 hi1;go_wp2_with fail;refine HHd.out.mono ?_;rintro e w2 ⟨rfl,A2,c2,w3,rfl,ho3,hb3,hn3⟩
 have hi3:=HI1.out.keep hb3.size (hb3.block _ hg1) (fun k hk=>by simp [Value.ownBlock] at hk)
 have hrow:(w3.setCell ⟨g,4,none⟩ (.slice A2 l.length c2)).ownsRow w.heap.size 31 1 (.slice A2 l.length c2) l.length (u32s l):=Dcd.own_chg ho3 (is_g (g:=g) (v:=nilS) 4 _) (fun j hj=>by
  rcases hj with hj|hj
  ·omega
  ·simp [Value.ownBlock] at hj)
 have hi4:InAt PD (w3.setCell ⟨g,4,none⟩ (.slice A2 l.length c2)) g w.heap.size (.slice A2 l.length c2) (q1 n) l [tv]:=by
  refine ⟨?_,hrow,fun e=>?_,?_,hi3.ne⟩
  ·rw [heap_setCell_same _ _ _ _ _ _ hi3.blk]
   simp [inCells]
  ·obtain ⟨a,b⟩:=hn3 e
   subst a b e
   rfl
  ·have h1:=HB1.out.size
   have h2:=hb3.size;have h3:(w3.setCell ⟨g,4,none⟩ (.slice A2 l.length c2)).heap.size=w3.heap.size:=by simp [World.setCell]
   omega
 have hch:Chg (IS g nilS) w (w3.setCell ⟨g,4,none⟩ (.slice A2 l.length c2)):=((Chg.of_below (S:=IS g nilS) HB1.out).trans (Chg.of_below (S:=IS g nilS) hb3)).trans (is_g 4 _)
 have hbe:=bend_in hi4 rfl;have HBe:=Lib.hid hbe;have HCh:=Lib.hid hch;have HN3:=Lib.hid hn3;have hv4:∀i,(Value.slice A2 l.length c2).ownBlock=some i→w.heap.size≤i:=fun i hi=>(hrow.lt i hi).1
 clear hbe hch ho3 hb3 hn3 hi3 hi4 hrow;go_wp2_with fail;refine HBe.out.mono ?_;rintro e w5 ⟨rfl,hd5,hc5⟩
 have HD5:=Lib.hid hd5;have HC5:=Lib.hid hc5;clear hd5 hc5;go_wp2_with fail;go_end0;refine ⟨rfl,chg_then HCh.out HC5.out (fun i hi hh=>?_),?_⟩
 ·rcases hh with hh|hh
  ·exact .inl hh
  ·have:=hv4 i hh
   omega
 ·by_cases hl0:l=[]
  ·obtain ⟨a,b⟩:=HN3.out hl0
   have h:=HD5.out;subst a b hl0;exact ⟨0,nilS,tv,h.rebase 0 (Nat.zero_le _),fun _=>⟨rfl,rfl⟩⟩
  ·exact ⟨_,_,tv,HD5.out,fun e=>absurd e hl0⟩
def TellPost (w:World) (g:Nat) (l:List Int) (e:Ending) (w':World):Prop:=∃A c,e= .returned (.tuple #[.int .i64 0,.slice A l.length c])∧Chg (IS g nilS) w w'∧Dcd.Told w' A c l∧OverD g w'
theorem pdtell_calls {w:World} {g n rb:Nat} {v tv:Value} {l:List Int} (h:InAt PD w g rb v (q2 n) l [tv]) (hl:0<l.length) (hl2:l.length≤4000):
  Calls Tryz.prog 252 #[.pointer (some ⟨g,0,none⟩),.string ByteArray.empty,.int .i64 4096] w (TellPost w g l):=by
 obtain ⟨r,c,hv,_,_⟩:=h.row.form hl;have h4:=h.c4;have f4:=h.fz 4;have hrow:=h.row;have hrg:=h.row_g;have hgl:=h.lt;subst hv;have hne:r≠g:=fun e=>hrg (by rw [e];rfl)
 have ht:=tell_all g 4 r rb c l 4096 w h4 f4 hrow hne hl (by omega) (by omega)
 have HT:=Lib.hid ht;have HD:=Lib.hid h;clear h h4 f4 hrow hrg ht;go_enter Tryz.func252,Tryz.ntmps252;go_wp2_with fail;go_loopw [8] (fun v8 wr=>v8= .int .i64 0∧w=wr) (fun _ _=>0)
 case atStart=>exact ⟨rfl,rfl⟩
 case round=>
  obtain ⟨rfl,rfl⟩:=hrel;go_wp2_with fail;refine HT.out.mono ?_;rintro e w1 ⟨r1,c1,w2,v1,rfl,rfl,hown,hb⟩
  have HOW:=Lib.hid hown;have HB:=Lib.hid hb;clear hown hb;go_wp2_with fail;go_ret2;have hlt:=HOW.out.lt r1 rfl;have hti:=HD.out.told HB.out v1;refine ⟨some ⟨r1,0,none⟩,c1,rfl,(((Chg.of_below HB.out).trans (is_g (v:=nilS) 4 _)).trans (is_g 4 _)),told_own (B:=w.heap.size) ?_,over_in hti rfl rfl rfl⟩
  refine HOW.out.kept (w':=_) (row:=some g) ⟨rfl,rfl,rfl,by simp [World.setCell],fun q hq hn=>?_⟩ (.inr (by simp [Value.ownBlock];omega))
  exact (Below.heap_setCell _ _ _ q (fun e=>hn (by rw [e]))).trans (Below.heap_setCell _ _ _ q (fun e=>hn (by rw [e])))
theorem mkd7 (v:Value) (w:World):(Instr.makeInterface 134 v).run Tryz.prog w= .ok (.iface 134 v) w:=run_makeInterface w 134 v (by kernel_rfl)
theorem dnew7 (w:World):Calls Tryz.prog 74 #[] w fun e w'=>e= .returned (.pointer (some ⟨w.heap.size,0,none⟩))∧InAt PD w' w.heap.size 0 nilS Dec.b40 [] [.slice none 0 0]∧Below w.heap.size w w':=by
 go_enter Tryz.func74,Tryz.ntmps74;go_wp2;go_ret;exact ⟨rfl,⟨heap_alloc_new _ _,World.ownsRow_nil _ _ _ _,fun _=>rfl,Nat.zero_le _,by decide⟩,(Below.refl _ _).alloc (Nat.le_refl _) _⟩
theorem disp7:Disp 134 252 251:=
 ⟨fun _ _=>by kernel_rfl,fun _ _=>by kernel_rfl,fun _ _=>by kernel_rfl,fun _ _=>by kernel_rfl,fun _ _ _ _=>by kernel_rfl,fun _ _=>by kernel_rfl⟩
theorem rdy7 {g:Nat} {l:List Int} {w1:World} (hl:l.length≤60) (hs:∀x∈l,0≤x∧isB x=true) (hd:InAt PD w1 g 0 nilS Dec.b40 [] [.slice none 0 0]):
  RdyG 252 251 (IS g nilS) g (strOfNums (textP l)) [] l w1:=by
 intro wy hy;have hdy:=hd.keep hy.size (hy.block _ hd.lt) (fun k hk=>by simp [Value.ownBlock] at hk)
 have htl:=textP_len l hl (fun x hx=>(isB_iff.1 (hs x hx).2).1)
 refine (pdfeed_calls hdy (by omega) (textP_rng hl hs)).mono ?_;rintro e w2 ⟨tv,rfl,hd2,ht2,hc2⟩
 refine ⟨none,0,by rw [str_size];rfl,hc2,⟨Lst.nil _ _ _,fun _=>rfl⟩,?_⟩
 intro w3 h3;have hd3:=hd2.keep h3.size (h3.block _ hd2.lt) (fun k hk=>by simp [Value.ownBlock] at hk)
 have ht3:TxAt w3 wy.heap.size tv (textP l):=⟨Dcd.own_chg ht2.1 (Chg.of_below (S:=fun _=>False) h3) (fun _ h=>h.elim),ht2.2⟩
 refine (pdend_calls hd3 ht3 hl hs).mono ?_;rintro e w4 ⟨rfl,hc4,rb,v,tv',hd4,hn4⟩
 refine ⟨rfl,hc4,fun h=>?_,fun h=>?_⟩
 ·obtain ⟨a,b⟩:=hn4 h
  subst a b h;exact over_in hd4 rfl rfl rfl
 ·have hpos:=List.length_pos_iff.2 h
  refine ⟨done_no hd4 rfl hpos,?_⟩
  refine (pdtell_calls hd4 hpos (by omega)).mono ?_;rintro e w5 ⟨A,c,rfl,h1,h2,h3⟩
  exact ⟨A,c,rfl,h1,h2,h3⟩
section
attribute [local go_sem] mkd7
theorem newG_7 {l:List Int} (hl:l.length≤60) (hs:∀x∈l,0≤x∧isB x=true) (w:World):
  Calls Tryz.prog 37 #[.int .i64 7] w (NewG 134 252 251 (strOfNums (textP l)) [] l w):=by
 go_enter Tryz.func37,Tryz.ntmps37;go_wp2_with fail;refine (dnew7 _).mono ?_;rintro e w1 ⟨rfl,hd,hb⟩
 go_wp2_with fail;go_ret2;exact ⟨w.heap.size,IS w.heap.size nilS,fun i hi=>is_lt (Nat.le_refl _) hd.lt hi,Nat.le_refl _,hd.lt,rfl,hb,rdy7 hl hs hd⟩
end
theorem decode_7 {l:List Int} (hl:l.length≤60) (hs:∀x∈l,0≤x∧isB x=true) (w:World):Calls Tryz.prog 18 #[.int .i64 7,.string (strOfNums (textP l))] w (DecG w l):=by
 have htl:=textP_len l hl (fun x hx=>(isB_iff.1 (hs x hx).2).1)
 have h:=decode_any (w:=w) disp7 (newG_7 hl hs) (by simp) (by omega) (by rw [str_size];omega)
 rwa [List.nil_append] at h
end Pux
namespace Enc
open Go.RowKit Win Stp Go.Proofs.YtooiooledeblmaaGreatW.PrintMore
structure EG (m:E):Prop where
 lo:m.o.length=8
 ro:∀x∈m.o,128≤x∧x≤1114000
 mem:∀n:Int,0≤n→n<8→n∈m.u
 lu:m.u.length=8
 ru:∀n∈m.u,0≤n∧n<8
 act:0≤m.act∧m.act<8
theorem EG.rng {m:E} (h:EG m):Rng m.o:=fun x hx=>by have:=h.ro x hx;omega
theorem EG.at_ {m:E} (h:EG m) {n:Int} (h0:0≤n) (h1:n<8):128≤wAt m.o n∧wAt m.o n≤1114000:=by
 unfold wAt;rw [if_pos ⟨h0,h1⟩,List.getD_eq_getElem?_getD,List.getElem?_eq_getElem (by rw [h.lo];omega)]
 exact h.ro _ (List.getElem_mem _)
def simpleC (m:E) (c:Int):Option (List Int):=if passB c=true then some [c] else if c<32 then some [1,c] else if hld (wAt m.o m.act) c=true then some [128+c-wAt m.o m.act] else none
def SimPost (w:World) (g gw:Nat) (b:B4) (l:List Int) (m:E) (r:Option (List Int)) (e:Ending) (w':World):Prop:=
 match r with
 |some x=>e= .returned (.bool true)∧EncAt w' g gw b (l++x) m∧Chg (EFS g gw) w w'
 |none=>e= .returned (.bool false)∧EncAt w' g gw b l m∧Chg (EFS g gw) w w'
section
variable {w:World} {g gw:Nat} {b:B4} {l:List Int} {m:E}
set_option maxHeartbeats 2000000 in
theorem simple_calls (c:Int) (h:EncAt w g gw b l m) (hG:EG m) (h0:0≤c) (h1:c≤1114111) (hl:l.length≤1000000):
  Calls Tryz.prog 203 #[.pointer (some ⟨g,0,none⟩),.int .u32 c] w (SimPost w g gw b l m (simpleC m c)):=by
 have HP:=Lib.hid (passes_calls c)
 unfold simpleC
 cases hp:passB c
 ·rw [if_neg (by decide)]
  rw [hp] at HP
  by_cases h32:c<32
  ·rw [if_pos h32]
   have HK:=Lib.hid (keep_calls [1,c] h hl (by simp))
   clear h hG hp;go_enter Tryz.func203,Tryz.ntmps203;go_wp2_with fail;refine (HP.out _).mono ?_;rintro e w1 ⟨rfl,rfl⟩
   go_wp2_with fail;refine HK.out.mono ?_;rintro e w1 ⟨rfl,hd,hc⟩
   have HD:=Lib.hid hd;have HC:=Lib.hid hc;clear hd hc;go_wp2_with fail;go_ret;exact ⟨rfl,HD.out,HC.out⟩
  ·rw [if_neg h32]
   have h6:=h.c6;have h8:=h.c8;have ha:=hG.at_ hG.act.1 hG.act.2;obtain ⟨x,hx⟩:∃x,x=wAt m.o m.act:=⟨_,rfl⟩
   have HA:=Lib.hid (fun n=>at_calls gw m.o m.u m.act (w.drewN n) (h.drewN n).win)
   rw [←hx] at HA ha ⊢;have HH:=Lib.hid (fun w=>holds_calls x c w (by omega) (by omega) h0 (by omega))
   cases hh:hld x c
   ·rw [hh] at HH
    have H:=Lib.hid h;clear h hG hp hh hx;go_enter Tryz.func203,Tryz.ntmps203;go_wp2_with fail;refine (HP.out _).mono ?_;rintro e w1 ⟨rfl,rfl⟩
    go_wp2_with fail;go_quiet ((first|(go_at_call 215;exact Calls.quiet_of_same ((HA.out _).mono (fun e w' h=>⟨h.1,h.2.symm⟩)))|(go_at_call 214;exact Calls.quiet_of_same ((HH.out _).mono (fun e w' h=>⟨h.1,h.2.symm⟩)))))
    go_wp2_with fail;go_ret;exact ⟨rfl,H.out.drewN _,Chg.drewN _ _⟩
   ·rw [hh] at HH
    have hxx:x≤c∧c-x<128:=by unfold hld at hh;simpa using hh
    have HHe:=Lib.hid (fun n=>held_calls m.act c (h.drewN n) (by rw [←hx];omega) (by rw [←hx];exact hxx.1) (by rw [←hx];exact hxx.2) h1)
    rw [←hx] at HHe;have HK:=Lib.hid (fun n=>keep_calls [128+c-x] (h.drewN n) hl (by simp))
    have H:=Lib.hid h;clear h hG hp hh hx;go_enter Tryz.func203,Tryz.ntmps203;go_wp2_with fail;refine (HP.out _).mono ?_;rintro e w1 ⟨rfl,rfl⟩
    go_wp2_with fail;go_quiet ((first|(go_at_call 215;exact Calls.quiet_of_same ((HA.out _).mono (fun e w' h=>⟨h.1,h.2.symm⟩)))|(go_at_call 214;exact Calls.quiet_of_same ((HH.out _).mono (fun e w' h=>⟨h.1,h.2.symm⟩)))))
    go_wp2_with fail;refine (HHe.out _).mono ?_;rintro e w2 ⟨rfl,rfl⟩
    go_wp2_with fail;refine (HK.out _).mono ?_;rintro e w2 ⟨rfl,hd,hc⟩
    have HD:=Lib.hid hd;have HC:=Lib.hid hc;clear hd hc;go_wp2_with fail;go_ret;exact ⟨rfl,HD.out,(Chg.drewN w _).trans HC.out⟩
 ·rw [if_pos rfl]
  rw [hp] at HP;have hb:c≤127:=by have:=passB_iff.1 hp;omega
  have HK:=Lib.hid (keep_calls [c] h hl (by simp))
  clear h hG hp;go_enter Tryz.func203,Tryz.ntmps203;go_wp2_with fail;refine (HP.out _).mono ?_;rintro e w1 ⟨rfl,rfl⟩
  go_wp2_with fail;refine HK.out.mono ?_;rintro e w1 ⟨rfl,hd,hc⟩
  have HD:=Lib.hid hd;have HC:=Lib.hid hc;clear hd hc;go_wp2_with fail;go_ret;exact ⟨rfl,HD.out,HC.out⟩
def unitsC (c:Int):List Int:=
 if 65536≤c then [(55296+(c-65536)/1024)/256,(55296+(c-65536)/1024)%256,(56320+(c-65536)%1024)/256,(56320+(c-65536)%1024)%256]
 else (if tagB c=true then [240] else [])++[c/256,c%256]
set_option maxHeartbeats 2000000 in
theorem units_calls (c:Int) (h:EncAt w g gw b l m) (h0:0≤c) (h1:c≤1114111) (hl:l.length<1000000):
  Calls Tryz.prog 202 #[.pointer (some ⟨g,0,none⟩),.int .u32 c] w (KeepPost w g gw b (l++unitsC c) m):=by
 unfold unitsC
 by_cases hc:65536≤c
 ·rw [if_pos hc]
  have or1:bits .or .u32 55296 ((c-65536)/1024)=55296+(c-65536)/1024:=bits_join .u32 32 (by decide) wraps_u32 10 55296 _ (by omega) (by omega) (by omega) (by omega) (by omega) (by omega)
  have or2:bits .or .u32 56320 ((c-65536)%1024)=56320+(c-65536)%1024:=bits_join .u32 32 (by decide) wraps_u32 10 56320 _ (by omega) (by omega) (by omega) (by omega) (by omega) (by omega)
  have an:bits .and .u32 (c-65536) 1023=(c-65536)%1024:=bits_mask .u32 32 (by decide) wraps_u32 10 (by decide) (c-65536) (by omega) (by omega)
  obtain ⟨x,hx⟩:∃x,x=55296+(c-65536)/1024:=⟨_,rfl⟩
  obtain ⟨y,hy⟩:∃y,y=56320+(c-65536)%1024:=⟨_,rfl⟩
  rw [←hx] at or1 ⊢;rw [←hy] at or2 ⊢;have hxr:0≤x∧x≤65535:=by omega
  have hyr:0≤y∧y≤65535:=by omega
  obtain ⟨x0,x1⟩:=hxr;obtain ⟨y0,y1⟩:=hyr;have w1:IntKind.u8.wrap x=x%256:=by rw [IntKind.wrap_u8]
  have w2:IntKind.u8.wrap y=y%256:=by rw [IntKind.wrap_u8]
  have HK:=Lib.hid (keep_calls [x/256,x%256,y/256,y%256] h (by omega) (by simp))
  clear h hx hy;go_enter Tryz.func202,Tryz.ntmps202;go_wp2_with fail;refine HK.out.mono ?_;rintro e w1 ⟨rfl,hd,hc⟩
  have HD:=Lib.hid hd;have HC:=Lib.hid hc;clear hd hc;go_wp2_with fail;go_end0;exact ⟨rfl,HD.out,HC.out⟩
 ·rw [if_neg hc]
  have HT:=Lib.hid (tagged_calls c)
  have w1:IntKind.u8.wrap c=c%256:=by rw [IntKind.wrap_u8]
  cases ht:tagB c
  ·rw [ht] at HT
   rw [if_neg (by decide),List.nil_append]
   have HK:=Lib.hid (keep_calls [c/256,c%256] h (by omega) (by simp))
   clear h ht;go_enter Tryz.func202,Tryz.ntmps202;go_wp2_with fail;refine (HT.out _).mono ?_;rintro e w1 ⟨rfl,rfl⟩
   go_wp2_with fail;refine HK.out.mono ?_;rintro e w1 ⟨rfl,hd,hc⟩
   have HD:=Lib.hid hd;have HC:=Lib.hid hc;clear hd hc;go_wp2_with fail;go_end0;exact ⟨rfl,HD.out,HC.out⟩
  ·rw [ht] at HT
   rw [if_pos rfl]
   have HK:=Lib.hid (keep_calls [240] h (by omega) (by simp))
   clear h ht;go_enter Tryz.func202,Tryz.ntmps202;go_wp2_with fail;refine (HT.out _).mono ?_;rintro e w1 ⟨rfl,rfl⟩
   go_wp2_with fail;refine HK.out.mono ?_;rintro e w1 ⟨rfl,hd,hcc⟩
   have HK2:=Lib.hid (keep_calls [c/256,c%256] hd (by rw [List.length_append];simp;omega) (by simp))
   have HC:=Lib.hid hcc;clear hd hcc;go_wp2_with fail;refine HK2.out.mono ?_;rintro e w2 ⟨rfl,hd,hcc⟩
   have HD:=Lib.hid hd;have HC2:=Lib.hid hcc;clear hd hcc;go_wp2_with fail;go_end0;refine ⟨rfl,?_,HC.out.trans HC2.out⟩
   have:=HD.out;rw [List.append_assoc] at this;exact this
end
end Enc
namespace Enc
open Go.RowKit Win Stp Go.Proofs.YtooiooledeblmaaGreatW.PrintMore
attribute [local go_sem] max2_int min2_int max_two min_two
theorem hld_iff {o c:Int}:hld o c=true↔o≤c∧c-o<128:=by unfold hld;simp
theorem idxFrom_hld {c:Int}:∀{l:List Int} {k n:Nat},idxFrom c k l=some n→k≤n∧hld (l.getD (n-k) 0) c=true
 |[],k,n,h=>by cases h
 |x::l,k,n,h=>by
  unfold idxFrom at h
  split at h
  ·injection h with h
   subst h;rename_i hx;exact ⟨Nat.le_refl _,by rw [Nat.sub_self];exact hx⟩
  ·obtain ⟨h1,h2⟩:=idxFrom_hld h
   refine ⟨by omega,?_⟩
   have:n-k=n-(k+1)+1:=by omega
   rw [this]
   exact h2
theorem index_own {c:Int} (h0:0≤c) (h:(wIndex c).2=true):hld (wOffset (wIndex c).1).1 c=true∧(wOffset (wIndex c).1).2=true:=by
 unfold wIndex at h ⊢
 cases hi:idxFrom c 0 specials with
 |some n=>
  have h1:=(idxFrom_hld hi).2;have h2:=idxFrom_lt hi;have h7:specials.length=7:=rfl;rw [h7] at h2;rw [Nat.sub_zero] at h1;simp only;have key:∀n:Fin 7,wOffset (249+(n.val:Int))=(specials.getD n.val 0,true):=by decide +kernel
  have:=key ⟨n,by omega⟩
  simp only at this;rw [this]
  exact ⟨h1,rfl⟩
 |none=>
  rw [hi] at h;simp only at h ⊢
  by_cases h1:128≤c∧c<13312
  ·rw [if_pos h1]
   have:wOffset (c/128)=(c/128*128,true):=by
    unfold wOffset;rw [if_neg (by omega),if_pos (by omega)]
   simp only [this]
   exact ⟨hld_iff.2 (by omega),by trivial⟩
  ·rw [if_neg h1] at h ⊢
   by_cases h2:57344≤c∧c<65536
   ·rw [if_pos h2]
    have:wOffset ((c-44032)/128)=((c-44032)/128*128+44032,true):=by
     unfold wOffset;rw [if_neg (by omega),if_neg (by omega),if_pos (by omega)]
    simp only [this]
    exact ⟨hld_iff.2 (by omega),by trivial⟩
   ·rw [if_neg h2] at h
    cases h
theorem own_hld {c:Int} (h0:0≤c) (h:(ownC c).2=true):hld (ownC c).1 c=true:=by
 unfold ownC at h ⊢
 by_cases hc:65536≤c
 ·rw [if_pos hc]
  exact hld_iff.2 (by simp only;omega)
 ·rw [if_neg hc] at h ⊢
  exact (index_own h0 h).1
def staticC (c:Int):Int×Int×Bool:=if (findFrom c 1 (statics.drop 1)).2=true then ((findFrom c 1 (statics.drop 1)).1,statics.getD (findFrom c 1 (statics.drop 1)).1.toNat 0,true) else (0,0,false)
def StatRel (w:World) (c:Int) (i:Value) (wr:World):Prop:=∃k:Nat,1≤k∧k≤8∧i= .int .i64 k∧w=wr∧findFrom c 1 (statics.drop 1)=findFrom c k (statics.drop k)
theorem static_rng2 {k:Nat} (h:k<8):0≤statics.getD k 0∧statics.getD k 0≤12288:=by
 match k with
 |0|1|2|3|4|5|6|7=>decide
 |n+8=>omega
theorem cstatic_calls (c:Int) (w:World) (h0:0≤c) (h1:c≤4294967295):Calls Tryz.prog 218 #[.int .u32 c] w fun e w'=>e= .returned (.tuple #[.int .i64 (staticC c).1,.int .u32 (staticC c).2.1,.bool (staticC c).2.2])∧w=w':=by
 obtain ⟨r,hr⟩:∃r,r=staticC c:=⟨_,rfl⟩
 rw [←hr]
 obtain ⟨rn,ro,rb⟩:=r;have HS:=Lib.hid hr;clear hr;go_enter Tryz.func218,Tryz.ntmps218;go_wp2_with fail;go_loopw [5] (fun i wr=>StatRel w c i wr) (fun i _=>8-(intOf i).toNat)
 case atStart=>exact ⟨1,Nat.le_refl _,by decide,rfl,rfl,rfl⟩
 case round=>
  obtain ⟨k,hk1,hk8,rfl,rfl,hf⟩:=hrel
  by_cases hlt:k<8
  ·have hst:=static_calls k
   have hw:wStatic k=(statics.getD k 0,true):=by
    unfold wStatic;rw [if_pos (by omega)]
    simp
   rw [hw] at hst;have hrg:=static_rng2 hlt;rw [find_step c statics k hlt] at hf;obtain ⟨o,ho⟩:∃o,o=statics.getD k 0:=⟨_,rfl⟩
   rw [←ho] at hst hrg hf;obtain ⟨r0,r1⟩:=hrg;have hh:=holds_calls o c;have HST:=Lib.hid hst
   cases hx:hld o c
   ·rw [hx] at hf hh
    rw [if_neg (by decide)] at hf;have HF:=Lib.hid hf;have HH:=Lib.hid (fun w=>hh w r0 (by omega) h0 h1)
    clear hst hf hh hx ho hw;go_wp2_with (first|(go_at_call 225;refine (HST.out _).mono ?_;rintro e w1 ⟨rfl,rfl⟩)|(go_at_call 214;refine (HH.out _).mono ?_;rintro e w1 ⟨rfl,rfl⟩))
    go_roundw
    case rel=>exact ⟨k+1,by omega,hlt,by go_num,rfl,HF.out⟩
    case measure=>simp [intOf];omega
   ·rw [hx] at hf hh
    rw [if_pos rfl] at hf;have hv:staticC c=((k:Int),o,true):=by
     unfold staticC;rw [hf,ho]
     simp
    have HV:=Lib.hid (HS.out.trans hv)
    have HH:=Lib.hid (fun w=>hh w r0 (by omega) h0 h1)
    clear hst hf hh hx ho hw hv;go_wp2_with (first|(go_at_call 225;refine (HST.out _).mono ?_;rintro e w1 ⟨rfl,rfl⟩)|(go_at_call 214;refine (HH.out _).mono ?_;rintro e w1 ⟨rfl,rfl⟩))
    have hv:=HV.out;simp only [Prod.mk.injEq] at hv;obtain ⟨rfl,rfl,rfl⟩:=hv;exact bodyPost_ret (v:=.tuple #[.int .i64 k,.int .u32 ro,.bool true]) (by simp [results,Tryz.results218,go_sem]) rfl ⟨rfl,rfl⟩
  ·obtain rfl:k=8:=by omega
   have hf2:staticC c=(0,0,false):=by
    unfold staticC;rw [hf]
    rfl
   have HV:=Lib.hid (HS.out.trans hf2)
   clear hf hf2;go_wp2_with fail;have hv:=HV.out;simp only [Prod.mk.injEq] at hv;obtain ⟨rfl,rfl,rfl⟩:=hv;exact bodyPost_ret (v:=.tuple #[.int .i64 0,.int .u32 0,.bool false]) (by simp [results,Tryz.results218,go_sem]) rfl ⟨rfl,rfl⟩
section
variable {w:World} {g gw:Nat} {b:B4} {l:List Int} {m:E}
theorem double_calls (c:Int) (h:EncAt w g gw b l m) (h0:0≤c) (h1:c≤1114111) (hl:l.length<999999):
  Calls Tryz.prog 204 #[.pointer (some ⟨g,0,none⟩),.int .u32 c] w (KeepPost w g gw b (l++15::unitsC c) {m with uni:=true}):=by
 have HK:=Lib.hid (keep_calls [15] h (by omega) (by simp))
 clear h;go_enter Tryz.func204,Tryz.ntmps204;go_wp2_with fail;refine HK.out.mono ?_;rintro e w1 ⟨rfl,hd,hc⟩
 have h7:=hd.c7;have f7:=hd.fz 7;have hs:=hd.set 7 (.bool true) (b':=b) (l':=l++[15]) (m':={m with uni:=true}) rfl rfl rfl;have HU:=Lib.hid (units_calls c hs h0 h1 (by rw [List.length_append];simp;omega))
 have HC:=Lib.hid hc;clear hd hc hs;go_wp2_with fail;refine HU.out.mono ?_;rintro e w2 ⟨rfl,hd,hc⟩
 have HD:=Lib.hid hd;have HC2:=Lib.hid hc;clear hd hc;go_wp2_with fail;go_end0;refine ⟨rfl,?_,(HC.out.trans (efs_g 7 _)).trans HC2.out⟩
 have:=HD.out;rw [List.append_assoc] at this;exact this
end
end Enc
namespace Enc
open Go.RowKit Win Stp Go.Proofs.YtooiooledeblmaaGreatW.PrintMore
def oldC (m:E):Int:=m.u.getD 0 0
def layM (m:E) (c:Int):E:={m with o:=m.o.set (oldC m).toNat (ownC c).1,act:=oldC m,u:=wTouch m.u (oldC m),uni:=false}
def layE (m:E) (c ix pr:Int):List Int:=(if (wPair (oldC m) c).2.2=true then [pr,(wPair (oldC m) c).1,(wPair (oldC m) c).2.1] else [ix+oldC m,(wIndex c).1])++[128+c-(ownC c).1]
section
variable {w:World} {g gw:Nat} {b:B4} {l:List Int} {m:E}
theorem old_rng (hG:EG m):0≤oldC m∧oldC m<8:=by
 unfold oldC;rw [List.getD_eq_getElem?_getD,List.getElem?_eq_getElem (by rw [hG.lu];decide)]
 exact hG.ru _ (List.getElem_mem _)
theorem wAt_set2 {o:List Int} {n c:Int} (hn:0≤n) (hn8:n<8) (hl:o.length=8):wAt (o.set n.toNat c) n=c:=by
 unfold wAt;rw [if_pos ⟨hn,hn8⟩,List.getD_eq_getElem?_getD,List.getElem?_set_self (by omega)]
 rfl
set_option maxRecDepth 100000 in
set_option maxHeartbeats 8000000 in
theorem lay_calls (c ix pr:Int) (h:EncAt w g gw b l m) (hG:EG m) (h0:0≤c) (h1:c≤1114111) (hl:l.length<999990) (ho:(ownC c).2=true) (i0:0≤ix) (i1:ix≤240) (p0:0≤pr) (p1:pr≤255):
  Calls Tryz.prog 211 #[.pointer (some ⟨g,0,none⟩),.int .u32 c,.int .u8 ix,.int .u8 pr] w (KeepPost w g gw b (l++layE m c ix pr) (layM m c)):=by
 have h6:=h.c6;have hor:=old_rng hG;have hown:=own_hld h0 ho;have hor2:=own_rng (c:=c) h0 (by omega)
 have HOld:=Lib.hid (oldest_calls gw m.o m.u w h.win)
 have HOwn:=Lib.hid (own_calls c w h0 (by omega))
 unfold layE layM;obtain ⟨n,hn⟩:∃n,n=oldC m:=⟨_,rfl⟩
 have hn':m.u.getD 0 0=n:=by rw [hn];rfl
 rw [hn'] at HOld;rw [←hn] at hor ⊢;obtain ⟨n0,n8⟩:=hor;unfold OwnPost at HOwn;rw [ho] at HOwn;obtain ⟨o,ho2⟩:∃o,o=(ownC c).1:=⟨_,rfl⟩
 rw [←ho2] at HOwn hown hor2 ⊢;rw [hld_iff] at hown;have HPr:=Lib.hid (fun w=>pair_calls n c w h0 (by omega))
 have HIx:=Lib.hid (fun w=>index_calls c w h0 (by omega))
 have hir:=idx_rng (c:=c) h0 (by omega)
 have hmem:=hG.mem;have hlo:=hG.lo;have H:=Lib.hid h;have HMem:=Lib.hid hmem;have HLo:=Lib.hid hlo;clear h hG hn hn' ho ho2 hmem hlo;have hpr:((wPair n c).2.2=true∧0≤(wPair n c).1∧(wPair n c).1≤255∧0≤(wPair n c).2.1∧(wPair n c).2.1≤255)∨(wPair n c).2.2=false:=by
  unfold wPair
  by_cases hc:0≤n∧n<8∧65536≤c∧c≤1114111
  ·rw [if_pos hc];simp only;left;refine ⟨trivial,?_,?_,?_,?_⟩ <;>omega
  ·rw [if_neg hc];right;rfl
 generalize wPair n c=pc at HPr hpr ⊢;obtain ⟨ph,pl,pk⟩:=pc;generalize wIndex c=xc at HIx hir ⊢;obtain ⟨x,xk⟩:=xc;simp only at hpr hir ⊢;have HPR:=Lib.hid hpr;clear hpr;obtain ⟨e1,he1⟩:∃e1,e1=(if pk=true then [pr,ph,pl] else [ix+n,x]):=⟨_,rfl⟩
 rw [←he1]
 have HE1:=Lib.hid he1;have hel:e1.length≤3:=by rw [he1];split <;>simp
 clear he1;go_enter Tryz.func211,Tryz.ntmps211;go_wp2_with fail;refine HOld.out.mono ?_;rintro e w1 ⟨rfl,rfl⟩
 go_wp2_with fail;refine HOwn.out.mono ?_;rintro e w1 ⟨rfl,hb⟩
 have H1:=Lib.hid (H.out.below hb)
 have HB1:=Lib.hid hb;clear hb;go_wp2_with fail;refine (HPr.out _).mono ?_;rintro e w2 ⟨rfl,rfl⟩
 go_upto_if 33 with fail;go_cut [] (fun wx=>EncAt wx g gw b (l++e1) m∧Chg (EFS g gw) w wx)
 case first=>
  cases pk with
  |true=>
   have HK:=Lib.hid (keep_calls [pr,ph,pl] H1.out (by omega) (by simp))
   go_wp2_with fail;refine HK.out.mono ?_;rintro e w2 ⟨rfl,hd,hc⟩
   have HD:=Lib.hid hd;have HC:=Lib.hid hc;clear hd hc;go_wp2_with fail;go_meet;rw [show e1=[pr,ph,pl] from by simpa using HE1.out]
   exact ⟨HD.out,(Chg.of_below HB1.out).trans HC.out⟩
  |false=>
   go_wp2_with fail;refine (HIx.out _).mono ?_;rintro e w2 ⟨rfl,hb⟩
   have HK:=Lib.hid (keep_calls [ix+n,x] (H1.out.below hb) (by omega) (by simp))
   have HB2:=Lib.hid hb;clear hb;go_wp2_with fail;refine HK.out.mono ?_;rintro e w3 ⟨rfl,hd,hc⟩
   have HD:=Lib.hid hd;have HC:=Lib.hid hc;clear hd hc;go_wp2_with fail;go_meet;rw [show e1=[ix+n,x] from by simpa using HE1.out]
   exact ⟨HD.out,((Chg.of_below HB1.out).trans (Chg.of_below HB2.out)).trans HC.out⟩
 case rest=>
  obtain ⟨hd,hc⟩:=hcut;have h6:=hd.c6;have hset:=set_calls gw m.o m.u n o wc hd.win;rw [if_pos ⟨n0,n8⟩] at hset;have HSet:=Lib.hid hset;have HD:=Lib.hid hd;have HC:=Lib.hid hc;clear hd hc hset;go_wp2_with fail;refine HSet.out.mono ?_;rintro e w4 ⟨rfl,hw,hcw⟩
  have hd4:=HD.out.wins hw hcw;have HC4:=Lib.hid hcw;have HU:=Lib.hid (use_calls n hd4 (HMem.out n))
  clear hw hcw hd4;go_wp2_with fail;refine HU.out.mono ?_;rintro e w5 ⟨rfl,hd5,hc5⟩
  have h7:=hd5.c7;have f7:=hd5.fz 7;have hs:=hd5.set 7 (.bool false) (b':=b) (l':=l++e1) (m':={m with o:=m.o.set n.toNat o,act:=n,u:=wTouch m.u n,uni:=false}) rfl rfl rfl;have hat:wAt (m.o.set n.toNat o) n=o:=wAt_set2 n0 n8 HLo.out;have hhe:=held_calls n c hs (by rw [hat];exact hor2.1) (by rw [hat];exact hown.1) (by rw [hat];exact hown.2) h1;have e2:wAt ({m with o:=m.o.set n.toNat o,act:=n,u:=wTouch m.u n,uni:=false}:E).o n=o:=hat;rw [e2] at hhe;have HHe:=Lib.hid hhe;have hk:=keep_calls [128+c-o] hs (by rw [List.length_append];omega) (by simp)
  have hsz5:(w5.setCell ⟨g,7,none⟩ (.bool false)).heap.size=w5.heap.size:=by simp [World.setCell]
  rw [hsz5] at hk;have HK:=Lib.hid hk;clear hk hsz5;have HC5:=Lib.hid hc5;clear hd5 hc5 hs hat hhe e2;go_wp2_with fail;refine HHe.out.mono ?_;rintro e w6 ⟨rfl,rfl⟩
  go_wp2_with fail;refine HK.out.mono ?_;rintro e w6 ⟨rfl,hd,hc⟩
  have HD6:=Lib.hid hd;have HC6:=Lib.hid hc;clear hd hc;go_wp2_with fail;go_end0;refine ⟨rfl,?_,(((HC.out.trans (efs_gw HC4.out)).trans HC5.out).trans (efs_g 7 _)).trans HC6.out⟩
  have:=HD6.out;rw [List.append_assoc] at this;exact this
end
end Enc
end Go.Proofs.YtooiooledeblmaaGreat
