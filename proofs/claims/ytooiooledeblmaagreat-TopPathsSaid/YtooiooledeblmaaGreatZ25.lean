/- The document's bytes by BOCU-1. The reference's windows' tables: each function's answer, for every number. The document's bytes by UTF-16 and UTF-32. The reference's windows: made, searched, touched. -/
import Derived.Test.YtooiooledeblmaaGreatZ24
import Derived.OwnWalk
import Derived.Deep.AppendLies
import Derived.Deep.RegionLaw
import Derived.WalkLawsBesides
set_option linter.unusedVariables false
set_option linter.unusedSimpArgs false
namespace Go.Proofs.YtooiooledeblmaaGreat
namespace Ref
open Go.RowKit Win Stp Go.Proofs.YtooiooledeblmaaGreat.Lst Out
def lstV (b:Int):Int×Int:=if b<34 then (-14536567,3) else if b<37 then (-187660+59049*(b-34),2) else if b<80 then (-10513+243*(b-37),1) else if b<208 then (-64+b-80,0) else if b<251 then (64+243*(b-208),1) else if b<254 then (10513+59049*(b-251),2) else (187660,3)
theorem least_calls (b:Int) (w:World) (h0:33≤b) (h1:b≤254):Calls Tryz.prog 84 #[.int .u8 b] w fun e w'=>e= .returned (.tuple #[.int .i64 (lstV b).1,.int .i64 (lstV b).2])∧w=w':=by
 unfold lstV
 by_cases g0:b<34
 ·obtain rfl:b=33:=by omega
  rw [if_pos (by decide)]
  go_enter Tryz.func84,Tryz.ntmps84;go_wp2;go_ret2;exact ⟨rfl,rfl⟩
 have k33:(b==33)=false:=by rw [beq_eq_false_iff_ne];omega
 rw [if_neg g0]
 by_cases g1:b<37
 ·have a1:34≤b:=by omega
  have b1:b≤36:=by omega
  rw [if_pos g1]
  clear g0 g1 h0 h1;go_enter Tryz.func84,Tryz.ntmps84;go_wp2;go_ret2;exact ⟨rfl,rfl⟩
 have c1:¬b≤36:=by omega
 have d1:34≤b:=by omega
 rw [if_neg g1]
 by_cases g2:b<80
 ·have a2:37≤b:=by omega
  have b2:b≤79:=by omega
  rw [if_pos g2]
  clear g0 g1 g2 h0 h1;go_enter Tryz.func84,Tryz.ntmps84;go_wp2;go_ret2;exact ⟨rfl,rfl⟩
 have c2:¬b≤79:=by omega
 have d2:37≤b:=by omega
 rw [if_neg g2]
 by_cases g3:b<208
 ·have a3:80≤b:=by omega
  have b3:b≤207:=by omega
  rw [if_pos g3]
  clear g0 g1 g2 g3 h0 h1;go_enter Tryz.func84,Tryz.ntmps84;go_wp2;go_ret2;exact ⟨rfl,rfl⟩
 have c3:¬b≤207:=by omega
 have d3:80≤b:=by omega
 rw [if_neg g3]
 by_cases g4:b<251
 ·have a4:208≤b:=by omega
  have b4:b≤250:=by omega
  rw [if_pos g4]
  clear g0 g1 g2 g3 g4 h0 h1;go_enter Tryz.func84,Tryz.ntmps84;go_wp2;go_ret2;exact ⟨rfl,rfl⟩
 have c4:¬b≤250:=by omega
 have d4:208≤b:=by omega
 rw [if_neg g4]
 by_cases g5:b<254
 ·have a5:251≤b:=by omega
  have b5:b≤253:=by omega
  rw [if_pos g5]
  clear g0 g1 g2 g3 g4 g5 h0 h1;go_enter Tryz.func84,Tryz.ntmps84;go_wp2;go_ret2;exact ⟨rfl,rfl⟩
 have c5:¬b≤253:=by omega
 have d5:251≤b:=by omega
 rw [if_neg g5]
 obtain rfl:b=254:=by omega
 clear g0 g1 g2 g3 g4 g5;go_enter Tryz.func84,Tryz.ntmps84;go_wp2;go_ret2;exact ⟨rfl,rfl⟩
def ldV (d:Int):Int:=(placeC d).2.1+(placeC d).1/243^(placeC d).2.2
theorem ld_eq (d:Int):ldV d=if -64≤d∧d≤63 then 144+d else if 187659<d then 254+(d-187660)/14348907 else if 10512<d then 251+(d-10513)/59049 else if 63<d then 208+(d-64)/243
  else if d< -187660 then 34+(d+187660)/14348907 else if d< -10513 then 37+(d+10513)/59049 else 80+(d+64)/243:=by
 unfold ldV placeC
 (repeat' split) <;>simp <;>omega
theorem ld_rng {d:Int} (h0: -1114111≤d) (h1:d≤1114111):33≤ldV d∧ldV d≤254:=(place_rng h0 h1).2.2.2
theorem lst_ld {d:Int} (h0: -1114111≤d) (h1:d≤1114111):(lstV (ldV d)).2=((placeC d).2.2:Int)∧d-(lstV (ldV d)).1=(placeC d).1-(placeC d).1/243^(placeC d).2.2*243^(placeC d).2.2:=by
 unfold ldV placeC
 repeat' split
 all_goals
  simp only [Int.pow_zero,Int.pow_one,show (243:Int)^2=59049 from rfl,show (243:Int)^3=14348907 from rfl]
  unfold lstV
  repeat' split
  all_goals first|omega|(constructor <;>omega)
theorem lst_le {d b:Int} (h0: -1114111≤d) (h1:d≤1114111) (b0:34≤b) (b1:b≤254):(lstV b).1≤d↔b≤ldV d:=by
 rw [ld_eq]
 unfold lstV
 repeat' split
 all_goals (simp only;omega)
theorem own_nil {w:World} {B n m c:Nat} {e:TypeId} {A:Option Addr} {cs:List Value} (h:w.ownsRow B e 1 (.slice A n c) m cs):A=none→c=0:=by
 rintro rfl;rcases h.2 with ⟨h1,_⟩|⟨_,_,_,h1,_⟩
 ·injection h1
 ·injection h1 with h1;cases h1
set_option maxRecDepth 100000 in
theorem tr_len:Dcd.TR.length=243:=by decide +kernel
set_option maxRecDepth 100000 in
theorem tr_at:∀v:Fin 243,Dcd.TR.getD v.val 0=byteC (v.val:Int):=by decide +kernel
theorem digs_mod (L:Int) (t:Nat) (h:t≤3):digs L t=digs (L-L/243^t*243^t) t:=by
 have:t=0∨t=1∨t=2∨t=3:=by omega
 rcases this with rfl|rfl|rfl|rfl
 ·rfl
 ·simp only [digs,Int.pow_zero,Int.pow_one,Int.ediv_one]
  rw [show (L-L/243*243)%243=L%243 by omega]
 ·simp only [digs,Int.pow_zero,Int.pow_one,Int.ediv_one,show (243:Int)^2=59049 from rfl]
  rw [show (L-L/59049*59049)%243=L%243 by omega,show (L-L/59049*59049)/243%243=L/243%243 by omega]
 ·simp only [digs,Int.pow_zero,Int.pow_one,Int.ediv_one,show (243:Int)^2=59049 from rfl,show (243:Int)^3=14348907 from rfl]
  rw [show (L-L/14348907*14348907)%243=L%243 by omega,show (L-L/14348907*14348907)/243%243=L/243%243 by omega,show (L-L/14348907*14348907)/59049%243=L/59049%243 by omega]
set_option maxRecDepth 100000 in
set_option maxHeartbeats 8000000 in
theorem pack11_calls (d:Int) (w:World) (h0: -1114111≤d) (h1:d≤1114111):Calls Tryz.prog 49 #[.int .i64 d] w (Str (packC d) w):=by
 have hld:=ld_rng h0 h1;obtain ⟨ht,hl⟩:=lst_ld h0 h1;have ht3:=(place_rng h0 h1).1;have hp:packC d=ldV d::digs (d-(lstV (ldV d)).1) (placeC d).2.2:=by rw [hl,←digs_mod _ _ ht3];rfl
 have hL0:0≤d-(lstV (ldV d)).1∧d-(lstV (ldV d)).1≤20000000:=by
  rw [hl]
  have h2:=(place_rng h0 h1).2.1;have h3:=(place_rng h0 h1).2.2.1;generalize (placeC d).1=L at*;generalize (placeC d).2.2=t at*;have:t=0∨t=1∨t=2∨t=3:=by omega
  rcases this with rfl|rfl|rfl|rfl <;>simp only [Int.pow_zero,Int.pow_one,Int.ediv_one,show (243:Int)^2=59049 from rfl,show (243:Int)^3=14348907 from rfl] <;>omega
 have HLe:=Lib.hid (fun b (h2:34≤b) (h3:b≤254)=>lst_le h0 h1 h2 h3)
 rw [hp]
 have HLC:=Lib.hid (fun w=>least_calls (ldV d) w hld.1 hld.2)
 rw [ht] at HLC;generalize (lstV (ldV d)).1=fr at hL0 HLC ⊢;generalize (placeC d).2.2=t at ht3 HLC ⊢;generalize ldV d=ld at hld HLe HLC ⊢;obtain ⟨l0,l1⟩:=hld;obtain ⟨L,hLd⟩:∃L,L=d-fr:=⟨_,rfl⟩
 rw [←hLd] at hL0 ⊢;have hfr:wrap64 (d-fr)=L:=by rw [←hLd];unfold wrap64;omega
 have HLD:=Lib.hid hLd;clear ht hl hp hLd;obtain ⟨hL0,hL1⟩:=hL0;have W8:∀b:Int,0≤b→b≤255→IntKind.u8.wrap b=b:=fun b h2 h3=>by rw [IntKind.wrap_u8];omega
 have HW8:=Lib.hid W8;clear W8;go_enter Tryz.func49,Tryz.ntmps49;go_wp2_with fail;go_loopw [3,4] (fun v3 v4 wr=>∃b:Nat,34≤b∧b≤255∧v4= .int .i64 b∧v3= .int .u8 (if ld<b then ld else (b:Int)-1)∧w=wr) (fun _ v4 _=>255-(intOf v4).toNat)
 case atStart=>exact ⟨34,by decide,by decide,rfl,by congr 1;split <;>omega,rfl⟩
 case round=>
  obtain ⟨b,hb0,hb1,rfl,rfl,rfl⟩:=hrel
  by_cases hlt:b≤254
  ·have hle:=HLe.out (b:Int) (by omega) (by omega)
   have hw:=HW8.out (b:Int) (by omega) (by omega)
   have HC:=Lib.hid (fun w=>least_calls (b:Int) w (by omega) (by omega))
   generalize (lstV (b:Int)).1=p at hle HC;generalize (lstV (b:Int)).2=q at HC;obtain ⟨v,hv⟩:∃v,v=(if ld<(b:Int) then ld else (b:Int)-1):=⟨_,rfl⟩
   rw [←hv]
   have HV:=Lib.hid hv;clear hv
   by_cases hpd:p≤d
   ·have hbl:=Lib.hid (hle.1 hpd)
    clear hle;go_wp2_with (go_at_call 84;refine (HC.out _).mono ?_;rintro e w1 ⟨rfl,rfl⟩)
    go_roundw
    case rel=>exact ⟨b+1,by omega,by omega,by go_num,by have:=hbl.out;congr 1;split <;>omega,trivial⟩
    case measure=>simp [intOf];omega
   ·have hbl:=Lib.hid (show ¬(b:Int)≤ld from fun h=>hpd (hle.2 h))
    clear hle;go_wp2_with (go_at_call 84;refine (HC.out _).mono ?_;rintro e w1 ⟨rfl,rfl⟩)
    go_roundw
    case rel=>exact ⟨b+1,by omega,by omega,by go_num,by have:=hbl.out;rw [HV.out];congr 1;(repeat' split) <;>omega,trivial⟩
    case measure=>simp [intOf];omega
  ·have hbe:(if ld<(b:Int) then ld else (b:Int)-1)=ld:=by split <;>omega
   rw [hbe]
   clear hbe;go_wp2_with (go_at_call 84;refine (HLC.out _).mono ?_;rintro e w1 ⟨rfl,rfl⟩)
   rw [hfr]
   clear hfr;go_loopw [9,10,11] (fun v9 v10 v11 wr=>∃j:Nat,j≤t∧v11= .int .i64 j∧v9= .int .i64 (L/243^j)∧Own8 w (digs L j) v10 wr) (fun _ _ v11 _=>t-(intOf v11).toNat)
   case atStart=>exact ⟨0,Nat.zero_le _,rfl,by simp,own_none w _ (Nat.le_refl _),(Below.refl _ _).alloc (Nat.le_refl _) _⟩
   case round=>
    obtain ⟨j,hj,rfl,rfl,ho,hbl⟩:=hrel;have hdl:=digs_length L j;have hdv:=div_le (x:=L) (B:=20000000) (by omega) hL1 (by decide) j;have hd0:0≤L/243^j:=Int.ediv_nonneg hL0 (Int.pow_nonneg (by decide))
    have HO:=Lib.hid ho;have HB:=Lib.hid hbl;have hds:digs L (j+1)=byteC (L/243^j%243)::digs L j:=rfl;have hdp:=pow_succ' L j;generalize L/243^j=x at hdv hd0 hds hdp ⊢;have HS:=Lib.hid (And.intro hds hdp)
    clear ho hbl hds hdp;obtain ⟨A,c,rfl⟩:=owns_form HO.out;have hnA:=own_nil HO.out;have HLs:=Lib.hid (lst8_of HO.out)
    by_cases hjt:j<t
    ·obtain ⟨n,hn⟩:∃n:Nat,x%243=(n:Int):=⟨(x%243).toNat,by omega⟩
     have hn2:n<243:=by omega
     have htr:=tr_at ⟨n,hn2⟩
     simp only at htr;have hbr:=byteC_rng (v:=(n:Int)) (by omega) (by omega)
     have q1:x.tmod 243=(n:Int):=by rw [Int.tmod_eq_emod_of_nonneg hd0];exact hn
     have q2:x.tdiv 243=x/243:=Int.tdiv_eq_ediv_of_nonneg hd0;have htl:=tr_len;have HT:=Lib.hid Dcd.trails_calls;unfold Dcd.TrailsPost at HT;rw [htl] at HT;rw [hn] at HS;have HS1:=Lib.hid HS.out.1;have HS2:=Lib.hid HS.out.2;clear hn;go_wp2_with fail;refine (HT.out _).mono ?_;rintro e w1 ⟨A1,c1,rfl,ho1,hb1⟩
     have hl1:=Dcd.lst_u8 ho1;obtain ⟨a,rfl,hc⟩:=hl1 n (by omega)
     rw [htr] at hc;have HB1:=Lib.hid (HB.out.trans (Below.mono hb1 HB.out.size))
     have HLs1:=Lib.hid (HLs.out.below hb1)
     generalize byteC (n:Int)=y at hc hbr HS1;have HOl:=Lib.hid (own_lit w1 y w.heap.size HB1.out.size)
     have HLa:=Lib.hid (HLs1.out.below ((Below.refl w1.heap.size w1).alloc (Nat.le_refl _) (.cells #[.int .u8 y] 5)))
     have HBa:=Lib.hid (HB1.out.alloc HB1.out.size (.cells #[.int .u8 y] 5))
     clear ho1 hb1 hl1 htr;go_wp2_with (at_builtin;refine appz rfl rfl _ _ rfl w.heap.size _ [y] rfl HOl.out (digs L j) (digs L (j+1)) HS1.out A _ c rfl (by first|rfl|exact hdl) HLa.out hnA (by simp;omega) HBa.out.size ?_;intro v' w2 h1 h2;have H1:=Lib.hid h1;have H2:=Lib.hid (HBa.out.grown h2 HBa.out.size (fun k hk=>(HOl.out.lt k hk).1));clear h1 h2)
     go_roundw
     case rel=>exact ⟨j+1,hjt,by go_num,by rw [HS2.out],H1.out,H2.out⟩
     case measure=>simp [intOf];omega
    ·obtain rfl:j=t:=by omega
     have HOl:=Lib.hid (own_lit wr ld w.heap.size HB.out.size)
     have HLa:=Lib.hid (HLs.out.below ((Below.refl wr.heap.size wr).alloc (Nat.le_refl _) (.cells #[.int .u8 ld] 5)))
     have HBa:=Lib.hid (HB.out.alloc HB.out.size (.cells #[.int .u8 ld] 5))
     go_wp2_with (at_builtin;refine appz rfl rfl _ _ rfl w.heap.size _ [ld] rfl HOl.out (digs L j) (ld::digs L j) rfl A _ c rfl (by first|rfl|exact hdl) HLa.out hnA (by simp;omega) HBa.out.size ?_;intro v' w2 h1 h2;have hcv:=conv_own h1 rfl;have H2:=Lib.hid (HBa.out.grown h2 HBa.out.size (fun k hk=>(HOl.out.lt k hk).1));clear h1 h2)
     go_ret;exact ⟨rfl,H2.out⟩
theorem prev11_calls (c:Int) (w:World) (h0:0≤c) (h1:c≤1114111):Calls Tryz.prog 50 #[.int .u32 c] w fun e w'=>e= .returned (.int .u32 (prevC c))∧w=w':=by
 unfold prevC;have hq:c.tdiv 128=c/128:=Int.tdiv_eq_ediv_of_nonneg h0;have hc:(12352≤c∧c≤12447)∨(19968≤c∧c≤40869∧¬c≤12447∧12352≤c)∨(44032≤c∧c≤55203∧¬c≤12447∧¬c≤40869∧12352≤c∧19968≤c)∨(¬12352≤c∧¬19968≤c∧¬44032≤c)∨(12352≤c∧¬c≤12447∧¬19968≤c∧¬44032≤c)∨(12352≤c∧¬c≤12447∧19968≤c∧¬c≤40869∧¬44032≤c)∨(12352≤c∧¬c≤12447∧19968≤c∧¬c≤40869∧44032≤c∧¬c≤55203):=by omega
 rcases hc with ⟨a1,a2⟩|⟨a1,a2,a3,a4⟩|⟨a1,a2,a3,a4,a5,a6⟩|⟨a1,a2,a3⟩|⟨a1,a2,a3,a4⟩|⟨a1,a2,a3,a4,a5⟩|⟨a1,a2,a3,a4,a5,a6⟩
 all_goals
  first
  |rw [if_pos (by omega)]
  |rw [if_neg (by omega),if_pos (by omega)]
  |rw [if_neg (by omega),if_neg (by omega),if_pos (by omega)]
  |rw [if_neg (by omega),if_neg (by omega),if_neg (by omega)]
  go_enter Tryz.func50,Tryz.ntmps50;go_wp2;go_ret;exact ⟨rfl,rfl⟩
theorem u32_i64 {x:Int} (h0:0≤x) (h1:x≤4294967295):wrap64 x=x:=by unfold wrap64;omega
set_option maxRecDepth 100000 in
set_option maxHeartbeats 8000000 in
theorem bytes12_calls {A:Option Addr} {cap:Nat} {l:List Int} {w:World} (hL:Lst w .u32 A l) (hl:l.length≤1000) (hs:∀x∈l,0≤x∧isB x=true):Calls Tryz.prog 28 #[.slice A l.length cap] w (Str (told bocuB bocuN 64 l) w):=by
 have HL:=Lib.hid hL;have HS:=Lib.hid hs;clear hL hs;go_enter Tryz.func28,Tryz.ntmps28;go_wp2_with fail;go_loopw [3,4,5] (fun v3 v4 v5 wr=>∃k:Nat,k≤l.length∧v5= .int .i64 k∧v3= .string (strOfNums (told bocuB bocuN 64 (l.take k)))∧v4= .int .i64 (foldN bocuN 64 (l.take k))∧bocuI (foldN bocuN 64 (l.take k))∧Below w.heap.size w wr) (fun _ _ v5 _=>l.length-(intOf v5).toNat)
 case atStart=>exact ⟨0,Nat.zero_le _,rfl,rfl,rfl,⟨by simp [foldN],by simp [foldN]⟩,Below.refl _ _⟩
 case round=>
  obtain ⟨k,hk,rfl,rfl,rfl,hi,hb⟩:=hrel;have HB:=Lib.hid hb;clear hb
  by_cases hlt:k<l.length
  ·obtain ⟨a,ha,hc⟩:=(HL.out.below HB.out) k hlt
   subst ha;have hx:=HS.out (l.getD k 0) (by rw [List.getD_eq_getElem?_getD,List.getElem?_eq_getElem hlt];exact List.getElem_mem _)
   have htk:l.take (k+1)=l.take k++[l.getD k 0]:=by
    rw [List.take_succ_eq_append_getElem hlt,List.getD_eq_getElem?_getD,List.getElem?_eq_getElem hlt];rfl
   have hts:=told_snoc bocuB bocuN (l.getD k 0) (l.take k) 64;rw [←htk] at hts;generalize l.getD k 0=x at hc hx hts;have x0:=hx.1;have x1:=(isB_iff.1 hx.2).1;have hsz:=told_len bocuN bocuB_len (l.take k) 64;rw [List.length_take] at hsz;obtain ⟨S,hS⟩:∃S,S=told bocuB bocuN 64 (l.take k):=⟨_,rfl⟩
   obtain ⟨r,hr⟩:∃r,r=foldN bocuN 64 (l.take k):=⟨_,rfl⟩
   rw [←hS] at hts hsz ⊢;rw [←hr] at hts hi ⊢;clear hS hr hx htk;obtain ⟨r0,r1⟩:=hi;have s0:(strOfNums S).size≤5000:=by rw [str_size];omega
   by_cases h32:32<x
   ·have hn:¬x≤32:=by omega
    have e1:bocuB r x=packC (x-r):=by unfold bocuB;rw [if_neg hn]
    have e2:bocuN r x=prevC x:=by unfold bocuN;rw [if_neg hn]
    have hp:=prevC_rng x0 x1;rw [e1,e2] at hts;have HTS:=Lib.hid hts;have q1:wrap64 x=x:=u32_i64 x0 (by omega)
    have HPa:=Lib.hid (pack11_calls (x-r) wr (by omega) (by omega))
    have HPr:=Lib.hid (fun w=>prev11_calls x w x0 x1)
    have hz1:(strOfNums (packC (x-r))).size≤5:=by rw [str_size,←e1];exact bocuB_len r x
    have HAp:=Lib.hid (str_append S (packC (x-r)))
    generalize packC (x-r)=D at hz1 HPa HTS HAp;clear hts hn e1 e2;have HSt:=Lib.hid (rfl:strOfNums S=strOfNums S)
    generalize prevC x=q at hp HPr HTS;have q2:wrap64 q=q:=u32_i64 hp.1 (by omega)
    go_wp2_with fail;refine HPa.out.mono ?_;rintro e w1 ⟨rfl,hb1⟩
    have HB1:=Lib.hid (HB.out.trans (Below.mono hb1 HB.out.size))
    clear hb1;go_wp2_with (go_at_call 50;refine (HPr.out _).mono ?_;rintro e w2 ⟨rfl,rfl⟩)
    go_roundw
    case rel=>exact ⟨k+1,hlt,by go_num,by rw [HTS.out.1,HAp.out],by rw [HTS.out.2],by rw [HTS.out.2];exact hp,HB1.out⟩
    case measure=>simp [intOf];omega
   ·have hn:x≤32:=by omega
    have e1:bocuB r x=[x]:=by unfold bocuB;rw [if_pos hn]
    have e2:bocuN r x=if x<32 then 64 else r:=by unfold bocuN;rw [if_pos hn]
    rw [e1,e2] at hts;have w1:IntKind.u8.wrap x=x:=by rw [IntKind.wrap_u8];omega
    have HAp:=Lib.hid (str_append S [x])
    have hz1:(strOfNums [x]).size≤5:=by rw [str_size];simp
    have hcv:(convert 68 9 (.slice (some ⟨wr.heap.size,0,none⟩) 1 1)).run Tryz.prog (wr.alloc (.cells #[.int .u8 x] 5))= .ok (.string (strOfNums [x])) (wr.alloc (.cells #[.int .u8 x] 5)):=conv_new wr [x] 1 rfl;have HB1:=Lib.hid (HB.out.alloc HB.out.size (.cells #[.int .u8 x] 5))
    clear e1 e2 hn
    by_cases h3:x=32
    ·rw [if_neg (by omega)] at hts
     have HTS:=Lib.hid hts;have hx2:(x !=32)=false:=by simp [h3]
     clear hts h3;go_wp2_with fail;go_roundw
     case rel=>exact ⟨k+1,hlt,by go_num,by rw [HTS.out.1,HAp.out],by rw [HTS.out.2],by rw [HTS.out.2];exact ⟨r0,r1⟩,HB1.out⟩
     case measure=>simp [intOf];omega
    ·rw [if_pos (by omega)] at hts
     have HTS:=Lib.hid hts;have hx2:(x !=32)=true:=by simp [h3]
     clear hts h3;go_wp2_with fail;go_roundw
     case rel=>exact ⟨k+1,hlt,by go_num,by rw [HTS.out.1,HAp.out],by rw [HTS.out.2],by rw [HTS.out.2];exact ⟨by decide,by decide⟩,HB1.out⟩
     case measure=>simp [intOf];omega
  ·obtain rfl:k=l.length:=by omega
   rw [List.take_length]
   go_wp2_with fail;go_ret;exact ⟨rfl,HB.out⟩
end Ref
namespace Win
open Go.RowKit
theorem rholds_calls (off c:Int) (w:World) (h0:0≤off) (h1:off≤4294967295) (h2:0≤c) (h3:c≤4294967295):Calls Tryz.prog 95 #[.int .u32 off,.int .u32 c] w fun e w'=>e= .returned (.bool (hld off c))∧w=w':=by
 by_cases ha:off≤c
 ·have hx:IntKind.u64.wrap off=off:=by rw [IntKind.wrap_u64];omega
  go_enter Tryz.func95,Tryz.ntmps95;go_wp2;go_ret;exact ⟨by unfold hld;simp [ha];omega,rfl⟩
 ·go_enter Tryz.func95,Tryz.ntmps95
  go_wp2;go_ret;exact ⟨by unfold hld;simp;omega,rfl⟩
theorem roffset_calls (x:Int) (w:World) (h0:0≤x) (h1:x≤255):Calls Tryz.prog 120 #[.int .i64 x] w fun e w'=>e= .returned (.tuple #[.int .u32 (wOffset x).1,.bool (wOffset x).2])∧Below w.heap.size w w':=by
 unfold wOffset
 by_cases a1:1≤x
 ·by_cases a2:x≤103
  ·have e:x*128=128*x:=by omega
   rw [if_neg (by omega),if_pos a2,e]
   clear e;go_enter Tryz.func120,Tryz.ntmps120;go_wp2;go_ret2;exact ⟨rfl,Below.refl _ _⟩
  ·by_cases a3:104≤x
   ·by_cases a4:x≤167
    ·have e:x*128+44032=128*x+44032:=by omega
     rw [if_neg (by omega),if_neg a2,if_pos a4,e]
     clear e;go_enter Tryz.func120,Tryz.ntmps120;go_wp2;go_ret2;exact ⟨rfl,Below.refl _ _⟩
    ·by_cases a5:249≤x
     ·have hs:specials.getD (x-249).toNat 0=specials.getD (x-249).toNat 0:=rfl
      rw [if_neg (by omega),if_neg a2,if_neg a4]
      have hx:x=249∨x=250∨x=251∨x=252∨x=253∨x=254∨x=255:=by omega
      clear hs a1 a2 a3 a4 a5 h0 h1;rcases hx with rfl|rfl|rfl|rfl|rfl|rfl|rfl
      all_goals
       go_enter Tryz.func120,Tryz.ntmps120;go_wp2;go_ret2;exact ⟨rfl,(Below.refl _ _).alloc (Nat.le_refl _) _⟩
     ·rw [if_pos (by omega)]
      go_enter Tryz.func120,Tryz.ntmps120;go_wp2;go_ret2;exact ⟨rfl,Below.refl _ _⟩
   ·exact absurd a3 (by omega)
 ·rw [if_pos (by omega)]
  go_enter Tryz.func120,Tryz.ntmps120;go_wp2;go_ret2;exact ⟨rfl,Below.refl _ _⟩
theorem below_drewN {B:Nat} {w W:World} (h:Below B w W) (n:Nat):Below B w (W.drewN n):=⟨h.os,h.tape,h.output,h.size,h.block⟩
structure RowAt (w:World) (g:Nat) (k:IntKind) (t:TypeId) (xs:List Int):Prop where
 blk:w.heap[g]? =some (.cells (xs.map fun x=>Value.int k x).toArray t (0,0))
theorem RowAt.cell {w:World} {g:Nat} {k:IntKind} {t:TypeId} {xs:List Int} (h:RowAt w g k t xs) (j:Nat) (hj:j<xs.length):w.cell? ⟨g,j,none⟩=some (.int k (xs.getD j 0)):=by
 rw [cell_of h.blk]
 simp [List.getD_eq_getElem?_getD,hj]
theorem RowAt.frozen {w:World} {g:Nat} {k:IntKind} {t:TypeId} {xs:List Int} (h:RowAt w g k t xs) (j:Nat):w.frozen? ⟨g,j,none⟩=false:=frozen_of h.blk j
theorem RowAt.keep {w w':World} {g:Nat} {k:IntKind} {t:TypeId} {xs:List Int} (h:RowAt w g k t xs) (he:w'.heap[g]? =w.heap[g]?):RowAt w' g k t xs:=⟨he.trans h.blk⟩
theorem RowAt.lt {w:World} {g:Nat} {k:IntKind} {t:TypeId} {xs:List Int} (h:RowAt w g k t xs):g<w.heap.size:=(Array.getElem?_eq_some_iff.1 h.blk).1
theorem RowAt.set {w:World} {g:Nat} {k:IntKind} {t:TypeId} {xs:List Int} (h:RowAt w g k t xs) (j:Nat) (c:Int):RowAt (w.setCell ⟨g,j,none⟩ (.int k c)) g k t (xs.set j c):=by
 refine ⟨?_⟩
 rw [heap_setCell_same w g j _ _ _ h.blk]
 congr 2
 simp
theorem rstatics_calls (w:World):Calls Tryz.prog 98 #[] w fun e w'=>e= .returned (.slice (some ⟨w.heap.size,0,none⟩) 8 8)∧RowAt w' w.heap.size .u32 31 statics∧Below w.heap.size w w'∧w.heap.size<w'.heap.size:=by
 go_enter Tryz.func98,Tryz.ntmps98;go_wp2;go_ret;exact ⟨rfl,⟨heap_alloc_new w _⟩,(Below.refl _ _).alloc (Nat.le_refl _) _,by simp⟩
end Win
namespace Ref
open Go.RowKit Win Stp Go.Proofs.YtooiooledeblmaaGreat.Lst Out
def uns (c:Int):List Int:=if c<65536 then [c] else [55296+(c-65536)/1024,56320+(c-65536)%1024]
theorem uns_b (big:Bool) (c:Int):(uns c).flatMap (unitB big)=uni16B big c:=by
 unfold uns uni16B
 split <;>simp
theorem uns_len (c:Int):(uns c).length≤2:=by unfold uns;split <;>simp
theorem uns_rng {c:Int} (h0:0≤c) (h1:c≤1114111):∀u∈uns c,0≤u∧u≤65535:=by
 intro u hu;unfold uns at hu
 split at hu
 ·rw [List.mem_singleton.1 hu];omega
 ·simp only [List.mem_cons,List.not_mem_nil,or_false] at hu
  omega
theorem runits_calls (c:Int) (w:World) (h0:0≤c) (h1:c≤1114111):Calls Tryz.prog 43 #[.int .u32 c] w fun e w'=>e= .returned (.slice (some ⟨w.heap.size,0,none⟩) (uns c).length (uns c).length)∧w'=w.alloc (.cells ((uns c).map fun x=>Value.int .u32 x).toArray 31):=by
 unfold uns
 by_cases h:c<65536
 ·rw [if_pos h]
  go_enter Tryz.func43,Tryz.ntmps43;go_wp2;go_ret;exact ⟨rfl,rfl⟩
 ·rw [if_neg h]
  have e1:Int.tmod (c-65536) 1024=(c-65536)%1024:=Int.tmod_eq_emod_of_nonneg (by omega)
  have e2:Int.tdiv (c-65536) 1024=(c-65536)/1024:=Int.tdiv_eq_ediv_of_nonneg (by omega)
  go_enter Tryz.func43,Tryz.ntmps43;go_wp2;go_ret;exact ⟨rfl,rfl⟩
theorem row_own {w w':World} {g:Nat} {k:IntKind} {xs:List Int} {base:Nat} {v:Value} {n:Nat} {cs:List Value} (h:RowAt w g k 31 xs) (hg:w.grownBy w' v.ownBlock) (ho:w.ownsRow base 5 1 v n cs):RowAt w' g k 31 xs:=by
 refine h.keep (hg.block g h.lt fun e=>?_)
 rcases ho.2 with ⟨h1,_⟩|⟨g',cap,cur,h1,_,hb,_⟩
 ·rw [h1] at e;cases e
 ·rw [h1] at e
  injection e with e
  subst e;have:=h.blk.symm.trans hb;injection this with this
  injection this with h2 h3
  cases h3
theorem row_bel {w w':World} {g:Nat} {k:IntKind} {t:TypeId} {xs:List Int} (h:RowAt w g k t xs) (hb:Below w.heap.size w w'):RowAt w' g k t xs:=h.keep (hb.block g h.lt)
theorem cell_new2 (w:World) (x y:Int):Lst (w.alloc (.cells #[.int .u8 x,.int .u8 y] 5)) .u8 (some ⟨w.heap.size,0,none⟩) [x,y]:=fun j hj=>by
 have:j=0∨j=1:=by simp at hj;omega
 rcases this with rfl|rfl
 ·exact ⟨_,rfl,by show World.cell? _ ⟨w.heap.size,0,none⟩=_;rw [cell_of (heap_alloc_new _ _)];rfl⟩
 ·exact ⟨_,rfl,by show World.cell? _ ⟨w.heap.size,0+1,none⟩=_;rw [cell_of (heap_alloc_new _ _)];rfl⟩
set_option maxRecDepth 100000 in
theorem sapp8 {P:Program} (hP:P=Tryz.prog) {w:World} {ops:Array Oper} {o:Oper} {a:Act} {K:Act→World→Prop} {Q:Exit→Act→World→Prop} {E:Prop} (hgd:o.guard=none) (s x:Operand)
  (ho:o.op= .call {callee:=.builtin .append,args:=#[s,x],argTypes:=#[68,68]})
  (base:Nat) (v:Value) (xs:List Int) (hs:a.eval s=v) (hown:w.ownsRow base 5 1 v xs.length (u8s xs))
  (g:Nat) (ys:List Int) (m:Nat) (hx:a.eval x= .slice (some ⟨g,0,none⟩) m m) (hL:Lst w .u8 (some ⟨g,0,none⟩) ys) (hm:ys.length=m) (hm0:0<m) (h63:xs.length+ys.length≤1000000) (hbase:base≤w.heap.size)
  (h:∀v' w',w'.ownsRow base 5 1 v' (xs++ys).length (u8s (xs++ys))→w.grownBy w' v.ownBlock→K (a.put o.dst v') w'):
  if Region.wanted o (yielded ops a.tmps)=true then Oper.wp P o a w K Q else E:=by
 subst hP;subst hm;obtain ⟨i0,hi,hz0,hz1,hz2⟩:=info_parts info_u8;refine step_append_lies w hgd s x 68 ho base 5 i0 (.int .u8 0) 1 1 Tryz.underlying68 hi hz0 hz1 hz2 rfl (by decide) v xs.length (u8s xs) hs hown ⟨g,0,none⟩ ys.length ys.length (u8s ys) hx (by simp [u8s_length]) ?_ (u8s_one ys) hm0 (by unfold maxLen;omega) (by omega) hbase _ rfl (fun r cap w' h1 h2 _ _=>?_)
 ·intro j u hu
  have hj:j<ys.length:=by have:=(List.getElem?_eq_some_iff.1 hu).1;rw [u8s_length] at this;exact this
  obtain ⟨b,hb,hc⟩:=hL j hj;injection hb with hb
  subst hb;unfold u8s at hu;rw [List.getElem?_map,List.getElem?_eq_getElem hj] at hu;simp at hu;rw [hc,List.getD_eq_getElem?_getD,List.getElem?_eq_getElem hj,←hu]
  rfl
 ·rw [←u8s_append,←List.length_append] at h1
  have h3:=h _ w' h1 h2;rw [List.length_append] at h3;exact h3
theorem Own8.drew {w wr:World} {l:List Int} {v:Value} (h:Own8 w l v wr):Own8 w l v wr.drew:=⟨h.1,below_drewN h.2 1⟩
theorem unitB_len (big:Bool) (u:Int):(unitB big u).length=2:=by unfold unitB;split <;>rfl
set_option maxRecDepth 100000 in
set_option maxHeartbeats 8000000 in
theorem bytes4_calls (big:Bool) {A:Option Addr} {cap:Nat} {l:List Int} {w:World} (hL:Lst w .u32 A l) (hl:l.length≤1000) (hs:∀x∈l,0≤x∧isB x=true):Calls Tryz.prog 24 #[.slice A l.length cap,.bool big] w (Str (l.flatMap (uni16B big)) w):=by
 have HL:=Lib.hid hL;have HS:=Lib.hid hs;clear hL hs;go_enter Tryz.func24,Tryz.ntmps24;go_wp2_with fail;go_loopw [5,6] (fun v5 v6 wr=>∃k:Nat,k≤l.length∧v6= .int .i64 k∧Own8 w ((l.take k).flatMap (uni16B big)) v5 wr) (fun _ v6 _=>l.length-(intOf v6).toNat)
 case atStart=>exact ⟨0,Nat.zero_le _,rfl,own_none w _ (Nat.le_refl _),(Below.refl _ _).alloc (Nat.le_refl _) _⟩
 case round=>
  obtain ⟨k,hk,rfl,ho,hb⟩:=hrel;have HO:=Lib.hid ho;have HB:=Lib.hid hb;clear ho hb
  by_cases hlt:k<l.length
  ·obtain ⟨a,rfl,hc⟩:=(HL.out.below HB.out) k hlt
   have hx:=HS.out (l.getD k 0) (by rw [List.getD_eq_getElem?_getD,List.getElem?_eq_getElem hlt];exact List.getElem_mem _)
   have hft:=flat_take (B:=uni16B big) hlt;have hfl:((l.take k).flatMap (uni16B big)).length≤5000:=by
    have:=flat_len (uni16B_len big) (l.take k)
    rw [List.length_take] at this;omega
   generalize l.getD k 0=x at hc hx hft;have x0:=hx.1;have x1:=(isB_iff.1 hx.2).1;have HU:=Lib.hid (fun w=>runits_calls x w x0 x1)
   have hul:=uns_len x;have hur:=uns_rng x0 x1;rw [←uns_b] at hft;obtain ⟨S,hS⟩:∃S,S=(l.take k).flatMap (uni16B big):=⟨_,rfl⟩
   rw [←hS] at hft hfl HO;clear hx hS;go_wp2_with (go_at_call 43;refine (HU.out _).mono ?_;rintro e w1 ⟨rfl,rfl⟩)
   have hrow:RowAt (wr.alloc (.cells ((uns x).map fun x=>Value.int .u32 x).toArray 31)) wr.heap.size .u32 31 (uns x):=⟨heap_alloc_new _ _⟩
   have ho2:=HO.out.alloc (.cells ((uns x).map fun x=>Value.int .u32 x).toArray 31)
   have hb2:=HB.out.alloc HB.out.size (.cells ((uns x).map fun x=>Value.int .u32 x).toArray 31)
   generalize uns x=us at hrow ho2 hb2 hft hul hur ⊢;obtain ⟨w1,hw1⟩:∃w1,w1=wr.alloc (.cells (us.map fun x=>Value.int .u32 x).toArray 31):=⟨_,rfl⟩
   rw [←hw1] at hrow ho2 hb2 ⊢;clear hw1;generalize wr.heap.size=gu at hrow ⊢;have HRow:=Lib.hid hrow;have HO2:=Lib.hid ho2;have HB2:=Lib.hid hb2;have HF:=Lib.hid hft;have HUr:=Lib.hid hur;clear hrow ho2 hb2 hft hur;go_loopw [5,8] (fun v5 v8 wx=>∃j:Nat,j≤us.length∧v8= .int .i64 j∧Own8 w (S++(us.take j).flatMap (unitB big)) v5 wx∧RowAt wx gu .u32 31 us) (fun _ v8 _=>us.length-(intOf v8).toNat)
   case atStart=>exact ⟨0,Nat.zero_le _,rfl,by rw [List.take_zero,List.flatMap_nil,List.append_nil];exact ⟨HO2.out,HB2.out⟩,HRow.out⟩
   case round=>
    obtain ⟨j,hj,rfl,⟨ho,hb⟩,hrow⟩:=hrel
    by_cases hjl:j<us.length
    ·have hcell:=hrow.cell j hjl
     have hcu:=HUr.out (us.getD j 0) (by rw [List.getD_eq_getElem?_getD,List.getElem?_eq_getElem hjl];exact List.getElem_mem _)
     have htj:=flat_take (B:=unitB big) hjl;have hlj:=flat_len (B:=unitB big) (n:=2) (fun c=>by rw [unitB_len];exact Nat.le_refl _) (us.take j)
     rw [List.length_take] at hlj;generalize us.getD j 0=u at hcell hcu htj;obtain ⟨u0,u1⟩:=hcu;have q1:IntKind.u8.wrap (u/256)=u/256:=by rw [IntKind.wrap_u8];omega
     have q2:IntKind.u8.wrap (u%256)=u%256:=by rw [IntKind.wrap_u8];omega
     have p1:IntKind.u32.wrap (u.tdiv 256)=u/256:=by rw [Int.tdiv_eq_ediv_of_nonneg u0,IntKind.wrap_u32];omega
     have p2:u.tmod 256=u%256:=Int.tmod_eq_emod_of_nonneg u0;obtain ⟨T,hT⟩:∃T,T=S++(us.take j).flatMap (unitB big):=⟨_,rfl⟩
     have hTl:T.length≤6000:=by rw [hT,List.length_append];omega
     have hts:S++(us.take (j+1)).flatMap (unitB big)=T++unitB big u:=by rw [htj,hT,List.append_assoc]
     rw [←hT] at ho;have HO3:=Lib.hid ho;have HB3:=Lib.hid hb;have HR3:=Lib.hid hrow;have HTS:=Lib.hid hts;clear ho hb hrow hts htj hlj hT
     cases big with
     |true=>
      go_upto_region 10 with fail;have HOa:=Lib.hid (show (wr.alloc (.cells #[.int .u8 (u/256),.int .u8 (u%256)] 5)).drew.ownsRow w.heap.size 5 1 _ T.length (u8s T) from HO3.out.alloc (.cells #[.int .u8 (u/256),.int .u8 (u%256)] 5))
      have HCa:=Lib.hid (show Lst (wr.alloc (.cells #[.int .u8 (u/256),.int .u8 (u%256)] 5)).drew .u8 (some ⟨wr.heap.size,0,none⟩) [u/256,u%256] from cell_new2 wr (u/256) (u%256))
      have HBa:=Lib.hid (below_drewN (HB3.out.alloc HB3.out.size (.cells #[.int .u8 (u/256),.int .u8 (u%256)] 5)) 1)
      have HRa:=Lib.hid (row_bel HR3.out (below_drewN ((Below.refl _ _).alloc (Nat.le_refl _) (.cells #[.int .u8 (u/256),.int .u8 (u%256)] 5)) 1))
      have hTs:T.length+[u/256,u%256].length≤1000000:=by simp;omega
      go_region_law (refine sapp8 rfl rfl _ _ rfl w.heap.size _ T rfl HOa.out _ [u/256,u%256] 2 rfl HCa.out rfl (by decide) hTs HBa.out.size ?_;intro v' w2 h1 h2;have H1:=Lib.hid h1;have H2:=Lib.hid (HBa.out.grown h2 HBa.out.size (fun k hk=>(HOa.out.lt k hk).1));have H3:=Lib.hid (row_own HRa.out h2 HOa.out);clear h1 h2)
      all_goals
       go_wp2_with fail;go_roundw
       case rel=>exact ⟨j+1,hjl,by go_num,⟨by rw [HTS.out];exact H1.out,H2.out⟩,H3.out⟩
       case measure=>simp [intOf];omega
     |false=>
      go_upto_region 11 with fail;have HOa:=Lib.hid (show (wr.alloc (.cells #[.int .u8 (u%256),.int .u8 (u/256)] 5)).drew.ownsRow w.heap.size 5 1 _ T.length (u8s T) from HO3.out.alloc (.cells #[.int .u8 (u%256),.int .u8 (u/256)] 5))
      have HCa:=Lib.hid (show Lst (wr.alloc (.cells #[.int .u8 (u%256),.int .u8 (u/256)] 5)).drew .u8 (some ⟨wr.heap.size,0,none⟩) [u%256,u/256] from cell_new2 wr (u%256) (u/256))
      have HBa:=Lib.hid (below_drewN (HB3.out.alloc HB3.out.size (.cells #[.int .u8 (u%256),.int .u8 (u/256)] 5)) 1)
      have HRa:=Lib.hid (row_bel HR3.out (below_drewN ((Below.refl _ _).alloc (Nat.le_refl _) (.cells #[.int .u8 (u%256),.int .u8 (u/256)] 5)) 1))
      have hTs:T.length+[u%256,u/256].length≤1000000:=by simp;omega
      go_region_law (refine sapp8 rfl rfl _ _ rfl w.heap.size _ T rfl HOa.out _ [u%256,u/256] 2 rfl HCa.out rfl (by decide) hTs HBa.out.size ?_;intro v' w2 h1 h2;have H1:=Lib.hid h1;have H2:=Lib.hid (HBa.out.grown h2 HBa.out.size (fun k hk=>(HOa.out.lt k hk).1));have H3:=Lib.hid (row_own HRa.out h2 HOa.out);clear h1 h2)
      all_goals
       go_wp2_with fail;go_roundw
       case rel=>exact ⟨j+1,hjl,by go_num,⟨by rw [HTS.out];exact H1.out,H2.out⟩,H3.out⟩
       case measure=>simp [intOf];omega
    ·obtain rfl:j=us.length:=by omega
     rw [List.take_length,←HF.out] at ho;have HO3:=Lib.hid ho;have HB3:=Lib.hid hb;clear ho hb hrow hjl;go_wp2_with fail;go_roundw
     case rel=>exact ⟨k+1,hlt,by go_num,HO3.out,HB3.out⟩
     case measure=>simp [intOf];omega
  ·obtain rfl:k=l.length:=by omega
   rw [List.take_length] at HO;have hcv:=conv_own HO.out rfl;go_wp2_with fail;go_ret;exact ⟨rfl,HB.out⟩
theorem cell_new4 (w:World) (a b c d:Int):Lst (w.alloc (.cells #[.int .u8 a,.int .u8 b,.int .u8 c,.int .u8 d] 5)) .u8 (some ⟨w.heap.size,0,none⟩) [a,b,c,d]:=fun j hj=>by
 have:j=0∨j=1∨j=2∨j=3:=by simp at hj;omega
 rcases this with rfl|rfl|rfl|rfl
 all_goals exact ⟨_,rfl,by show World.cell? _ ⟨w.heap.size,_,none⟩=_;rw [cell_of (heap_alloc_new _ _)];rfl⟩
set_option maxRecDepth 100000 in
set_option maxHeartbeats 8000000 in
theorem bytes5_calls (big:Bool) {A:Option Addr} {cap:Nat} {l:List Int} {w:World} (hL:Lst w .u32 A l) (hl:l.length≤1000) (hs:∀x∈l,0≤x∧isB x=true):Calls Tryz.prog 25 #[.slice A l.length cap,.bool big] w (Str (l.flatMap (uni32B big)) w):=by
 have HL:=Lib.hid hL;have HS:=Lib.hid hs;clear hL hs;go_enter Tryz.func25,Tryz.ntmps25;go_wp2_with fail;go_loopw [5,6] (fun v5 v6 wr=>∃k:Nat,k≤l.length∧v6= .int .i64 k∧Own8 w ((l.take k).flatMap (uni32B big)) v5 wr) (fun _ v6 _=>l.length-(intOf v6).toNat)
 case atStart=>exact ⟨0,Nat.zero_le _,rfl,own_none w _ (Nat.le_refl _),(Below.refl _ _).alloc (Nat.le_refl _) _⟩
 case round=>
  obtain ⟨k,hk,rfl,ho,hb⟩:=hrel;have HO:=Lib.hid ho;have HB:=Lib.hid hb;clear ho hb
  by_cases hlt:k<l.length
  ·obtain ⟨a,rfl,hc⟩:=(HL.out.below HB.out) k hlt
   have hx:=HS.out (l.getD k 0) (by rw [List.getD_eq_getElem?_getD,List.getElem?_eq_getElem hlt];exact List.getElem_mem _)
   have hft:=flat_take (B:=uni32B big) hlt;have hfl:((l.take k).flatMap (uni32B big)).length≤5000:=by
    have:=flat_len (uni32B_len big) (l.take k)
    rw [List.length_take] at this;omega
   generalize l.getD k 0=x at hc hx hft;have x0:=hx.1;have x1:=(isB_iff.1 hx.2).1;obtain ⟨S,hS⟩:∃S,S=(l.take k).flatMap (uni32B big):=⟨_,rfl⟩
   rw [←hS] at hft hfl HO;have p0:x.tmod 256=x%256:=Int.tmod_eq_emod_of_nonneg x0;have p1:x.tdiv 256=x/256:=Int.tdiv_eq_ediv_of_nonneg x0;have p2:x.tdiv 65536=x/65536:=Int.tdiv_eq_ediv_of_nonneg x0;have p3:x.tdiv 16777216=x/16777216:=Int.tdiv_eq_ediv_of_nonneg x0;have p4:(x/256).tmod 256=x/256%256:=Int.tmod_eq_emod_of_nonneg (by omega)
   have p5:(x/65536).tmod 256=x/65536%256:=Int.tmod_eq_emod_of_nonneg (by omega)
   have hzs:(l.take (k+1)).flatMap (uni32B big)=S++uni32B big x:=hft;clear hx hS hft;obtain ⟨a0,ha0⟩:∃y,y=x%256:=⟨_,rfl⟩
   obtain ⟨a1,ha1⟩:∃y,y=x/256%256:=⟨_,rfl⟩
   obtain ⟨a2,ha2⟩:∃y,y=x/65536%256:=⟨_,rfl⟩
   obtain ⟨a3,ha3⟩:∃y,y=x/16777216:=⟨_,rfl⟩
   have hub:uni32B big x=if big=true then [a3,a2,a1,a0] else [a0,a1,a2,a3]:=by unfold uni32B;rw [ha0,ha1,ha2,ha3]
   rw [hub] at hzs;clear hub;go_upto_region 7 with fail;rw [←ha0,←ha1,←ha2,←ha3]
   have hls:=cell_new4 wr a0 a1 a2 a3;have ho1:=HO.out.alloc (.cells #[.int .u8 a0,.int .u8 a1,.int .u8 a2,.int .u8 a3] 5)
   have hb1:=HB.out.alloc HB.out.size (.cells #[.int .u8 a0,.int .u8 a1,.int .u8 a2,.int .u8 a3] 5)
   clear ha0 ha1 ha2 ha3 p0 p1 p2 p3 p4 p5;generalize wr.alloc (.cells #[.int .u8 a0,.int .u8 a1,.int .u8 a2,.int .u8 a3] 5)=w1 at hls ho1 hb1 ⊢;generalize wr.heap.size=gu at hls ⊢;have HLs:=Lib.hid hls;have HO1:=Lib.hid ho1;have HB1:=Lib.hid hb1
   cases big with
   |true=>
    rw [if_pos rfl] at hzs;have HZ:=Lib.hid hzs;have c0:w1.cell? ⟨gu,0,none⟩=some (.int .u8 a0):=by obtain ⟨b,e,h⟩:=hls 0 (by simp);injection e with e;subst e;exact h
    have c1:w1.cell? ⟨gu,1,none⟩=some (.int .u8 a1):=by obtain ⟨b,e,h⟩:=hls 1 (by simp);injection e with e;subst e;exact h
    have c2:w1.cell? ⟨gu,2,none⟩=some (.int .u8 a2):=by obtain ⟨b,e,h⟩:=hls 2 (by simp);injection e with e;subst e;exact h
    have c3:w1.cell? ⟨gu,3,none⟩=some (.int .u8 a3):=by obtain ⟨b,e,h⟩:=hls 3 (by simp);injection e with e;subst e;exact h
    clear hls ho1 hb1 hzs;go_upto_region 8 with fail;go_region_with fail
    all_goals
     have HOa:=Lib.hid (show (w1.alloc (.cells #[.int .u8 a3,.int .u8 a2,.int .u8 a1,.int .u8 a0] 5)).drew.ownsRow w.heap.size 5 1 _ S.length (u8s S) from HO1.out.alloc (.cells #[.int .u8 a3,.int .u8 a2,.int .u8 a1,.int .u8 a0] 5))
     have HCa:=Lib.hid (show Lst (w1.alloc (.cells #[.int .u8 a3,.int .u8 a2,.int .u8 a1,.int .u8 a0] 5)).drew .u8 (some ⟨w1.heap.size,0,none⟩) [a3,a2,a1,a0] from cell_new4 w1 a3 a2 a1 a0)
     have HBa:=Lib.hid (below_drewN (HB1.out.alloc HB1.out.size (.cells #[.int .u8 a3,.int .u8 a2,.int .u8 a1,.int .u8 a0] 5)) 1)
     go_wp2_with (at_builtin;refine appz rfl rfl _ _ rfl w.heap.size _ S rfl HOa.out [a3,a2,a1,a0] _ HZ.out _ _ _ rfl rfl HCa.out (by intro h;cases h) (by omega) HBa.out.size ?_;intro v' w2 h1 h2;have H1:=Lib.hid h1;have H2:=Lib.hid (HBa.out.grown h2 HBa.out.size (fun k hk=>(HOa.out.lt k hk).1));clear h1 h2)
     go_roundw
     case rel=>exact ⟨k+1,hlt,by go_num,H1.out,H2.out⟩
     case measure=>simp [intOf];omega
   |false=>
    rw [if_neg (by decide)] at hzs;have HZ:=Lib.hid hzs;clear hls ho1 hb1 hzs;have HOa:=HO1;have HBa:=HB1;have HCa:=HLs;go_wp2_with (at_builtin;refine appz rfl rfl _ _ rfl w.heap.size _ S rfl HOa.out [a0,a1,a2,a3] _ HZ.out _ _ _ rfl rfl HCa.out (by intro h;cases h) (by omega) HBa.out.size ?_;intro v' w2 h1 h2;have H1:=Lib.hid h1;have H2:=Lib.hid (HBa.out.grown h2 HBa.out.size (fun k hk=>(HOa.out.lt k hk).1));clear h1 h2)
    go_roundw
    case rel=>exact ⟨k+1,hlt,by go_num,H1.out,H2.out⟩
    case measure=>simp [intOf];omega
  ·obtain rfl:k=l.length:=by omega
   rw [List.take_length] at HO;have hcv:=conv_own HO.out rfl;go_wp2_with fail;go_ret;exact ⟨rfl,HB.out⟩
end Ref
namespace Win
open Go.RowKit
theorem info_int:(Tryz.prog.info? 3).map (fun i=>(i.zero,i.size,i.bytes))=some (some (.int .i64 0),1,8):=by kernel_rfl
def ints (xs:List Int):List Value:=xs.map fun x=> .int .i64 x
structure RefAt (w:World) (g go gu cu:Nat) (o u:List Int):Prop where
 blk:w.heap[g]? =some (.cells #[.slice (some ⟨go,0,none⟩) 8 8,.slice (some ⟨gu,0,none⟩) 8 cu] 146 (0,0))
 offs:RowAt w go .u32 31 o
 used:∃cells,w.heap[gu]? =some (.cells cells 3 (0,0))∧cells.toList.take 8=ints u
 lo:o.length=8
 lu:u.length=8
 hc:8≤cu
theorem RefAt.f0 {w:World} {g go gu cu:Nat} {o u:List Int} (h:RefAt w g go gu cu o u):w.cell? ⟨g,0,none⟩=some (.slice (some ⟨go,0,none⟩) 8 8):=by rw [cell_of h.blk];rfl
theorem RefAt.f1 {w:World} {g go gu cu:Nat} {o u:List Int} (h:RefAt w g go gu cu o u):w.cell? ⟨g,1,none⟩=some (.slice (some ⟨gu,0,none⟩) 8 cu):=by rw [cell_of h.blk];rfl
theorem RefAt.off {w:World} {g go gu cu:Nat} {o u:List Int} (h:RefAt w g go gu cu o u) (j:Nat) (hj:j<8):w.cell? ⟨go,j,none⟩=some (.int .u32 (o.getD j 0)):=h.offs.cell j (by rw [h.lo];exact hj)
theorem RefAt.use {w:World} {g go gu cu:Nat} {o u:List Int} (h:RefAt w g go gu cu o u) (j:Nat) (hj:j<8):w.cell? ⟨gu,j,none⟩=some (.int .i64 (u.getD j 0)):=by
 obtain ⟨cells,hb,ht⟩:=h.used;rw [cell_of hb]
 have h1:(cells.toList.take 8)[j]? =(ints u)[j]? :=by rw [ht]
 rw [List.getElem?_take,if_pos hj] at h1;rw [←Array.getElem?_toList,h1,ints,List.getElem?_map,List.getD_eq_getElem?_getD,List.getElem?_eq_getElem (show j<u.length by rw [h.lu];exact hj)]
 rfl
theorem RefAt.keep {w w':World} {g go gu cu:Nat} {o u:List Int} (h:RefAt w g go gu cu o u) (h0:w'.heap[g]? =w.heap[g]?) (h1:w'.heap[go]? =w.heap[go]?) (h2:w'.heap[gu]? =w.heap[gu]?):RefAt w' g go gu cu o u:=by
 obtain ⟨cells,hb,ht⟩:=h.used;exact ⟨h0.trans h.blk,h.offs.keep h1,⟨cells,h2.trans hb,ht⟩,h.lo,h.lu,h.hc⟩
theorem RefAt.lt {w:World} {g go gu cu:Nat} {o u:List Int} (h:RefAt w g go gu cu o u):g<w.heap.size∧go<w.heap.size∧gu<w.heap.size:=by
 obtain ⟨cells,hb,ht⟩:=h.used;exact ⟨(Array.getElem?_eq_some_iff.1 h.blk).1,h.offs.lt,(Array.getElem?_eq_some_iff.1 hb).1⟩
theorem RefAt.ne {w:World} {g go gu cu:Nat} {o u:List Int} (h:RefAt w g go gu cu o u):g≠go∧g≠gu∧go≠gu:=by
 obtain ⟨cells,hb,ht⟩:=h.used;refine ⟨?_,?_,?_⟩
 ·rintro rfl
  have:=h.blk.symm.trans h.offs.blk;simp at this
 ·rintro rfl
  have:=h.blk.symm.trans hb;simp at this
 ·rintro rfl
  have:=h.offs.blk.symm.trans hb;simp at this
theorem rnew_calls (w:World):Calls Tryz.prog 51 #[] w fun e w'=>e= .returned (.pointer (some ⟨w.heap.size+2,0,none⟩))∧RefAt w' (w.heap.size+2) w.heap.size (w.heap.size+1) 8 firsts used0∧Below w.heap.size w w'∧w'.heap.size=w.heap.size+3:=by
 have hf:Calls Tryz.prog 85 #[] w fun e w'=>e= .returned (.slice (some ⟨w.heap.size,0,none⟩) 8 8)∧w'=w.alloc (.cells (firsts.map fun x=>Value.int .u32 x).toArray 31):=by
  go_enter Tryz.func85,Tryz.ntmps85;go_wp2;go_ret;exact ⟨rfl,rfl⟩
 go_enter Tryz.func51,Tryz.ntmps51;go_wp2_with (go_at_call 85;refine hf.mono ?_;rintro e w1 ⟨rfl,rfl⟩)
 go_ret;refine ⟨rfl,⟨?_,⟨?_⟩,⟨#[.int .i64 7,.int .i64 6,.int .i64 5,.int .i64 4,.int .i64 3,.int .i64 2,.int .i64 1,.int .i64 0],?_,?_⟩,rfl,rfl,Nat.le_refl _⟩,?_,by simp⟩
 ·have:=heap_alloc_new ((w.alloc (.cells (firsts.map fun x=>Value.int .u32 x).toArray 31)).alloc (.cells #[.int .i64 7,.int .i64 6,.int .i64 5,.int .i64 4,.int .i64 3,.int .i64 2,.int .i64 1,.int .i64 0] 3)) (.cells #[.slice (some ⟨w.heap.size,0,none⟩) 8 8,.slice (some ⟨w.heap.size+1,0,none⟩) 8 8] 146)
  simpa using this
 ·rw [Below.heap_alloc _ _ _ (by simp;omega),Below.heap_alloc _ _ _ (by simp),heap_alloc_new]
 ·have:=heap_alloc_new (w.alloc (.cells (firsts.map fun x=>Value.int .u32 x).toArray 31)) (.cells #[.int .i64 7,.int .i64 6,.int .i64 5,.int .i64 4,.int .i64 3,.int .i64 2,.int .i64 1,.int .i64 0] 3)
  rw [Below.heap_alloc _ _ _ (by simp)]
  simpa using this
 ·rfl
 ·exact (((Below.refl _ _).alloc (Nat.le_refl _) _).alloc (by simp) _).alloc (by simp;omega) _
def rFindFrom (c:Int):Nat→List Int→Int
 |_,[]=> -1
 |n,x::l=>if hld x c=true then (n:Int) else rFindFrom c (n+1) l
def rFind (o:List Int) (c:Int):Int:=rFindFrom c 0 o
theorem rfind_step (c:Int) (o:List Int) (k:Nat) (h:k<o.length):rFindFrom c k (o.drop k)=if hld (o.getD k 0) c=true then (k:Int) else rFindFrom c (k+1) (o.drop (k+1)):=by
 rw [List.drop_eq_getElem_cons h]
 simp only [rFindFrom]
 rw [List.getD_eq_getElem?_getD,List.getElem?_eq_getElem h]
 rfl
set_option maxHeartbeats 1000000 in
theorem rfind_calls (g go gu cu:Nat) (o u:List Int) (c:Int) (w:World) (h:RefAt w g go gu cu o u) (hr:Rng o) (h2:0≤c) (h3:c≤4294967295):Calls Tryz.prog 90 #[.pointer (some ⟨g,0,none⟩),.int .u32 c] w fun e w'=>e= .returned (.int .i64 (rFind o c))∧w=w':=by
 have hf0:=h.f0;have hlen:=h.lo;have HO:=Lib.hid h.off;have HL:=Lib.hid hlen;have HR:=Lib.hid hr;clear h hr hlen;go_enter Tryz.func90,Tryz.ntmps90;go_wp2_with fail;go_loop [5] (fun i=>∃k:Nat,k≤8∧i= .int .i64 k∧Hid (rFind o c=rFindFrom c k (o.drop k))) (fun i=>8-(intOf i).toNat)
 case atStart=>exact ⟨0,by decide,rfl,Lib.hid rfl⟩
 case round=>
  obtain ⟨k,hk,rfl,HF⟩:=hrel
  by_cases hlt:k<8
  ·have hcell:=HO.out k hlt
   have hst:=rfind_step c o k (by rw [HL.out];exact hlt)
   have hrg:=HR.out (o.getD k 0) (by rw [List.getD_eq_getElem?_getD,List.getElem?_eq_getElem (show k<o.length by rw [HL.out];exact hlt)];exact List.getElem_mem _)
   rw [←HF.out] at hst;generalize (o.getD k 0:Int)=x at hcell hst hrg;obtain ⟨hr0,hr1⟩:=hrg;have hx:=rholds_calls x c w hr0 hr1 h2 h3
   by_cases hb:hld x c=true
   ·rw [if_pos hb] at hst
    have HS:=Lib.hid hst;rw [hb] at hx;clear hst hb;go_wp2_with (go_at_call 95;refine hx.mono ?_;rintro e w1 ⟨rfl,rfl⟩)
    go_ret;exact ⟨by rw [HS.out];rfl,rfl⟩
   ·rw [if_neg hb] at hst
    have hb':hld x c=false:=by simpa using hb
    have HS:=Lib.hid hst;rw [hb'] at hx;clear hst hb hb';go_wp2_with (go_at_call 95;refine hx.mono ?_;rintro e w1 ⟨rfl,rfl⟩)
    go_round
    case rel=>exact ⟨k+1,by omega,by go_num,HS⟩
    case measure=>simp [intOf];omega
  ·obtain rfl:k=8:=by omega
   have hf:=HF.out;rw [List.drop_of_length_le (by rw [HL.out];exact Nat.le_refl _)] at hf;have HS:=Lib.hid hf;clear hf HF;go_wp2;go_ret;exact ⟨by rw [HS.out];rfl,rfl⟩
theorem own_cells {w:World} {base n g c:Nat} {e:TypeId} {xs:List Value} (h:w.ownsRow base e 1 (.slice (some ⟨g,0,none⟩) n c) n xs):∃cells,w.heap[g]? =some (.cells cells e (0,0))∧cells.toList.take n=xs∧n≤c∧base≤g:=by
 rcases h.2 with ⟨h1,_⟩|⟨g',cap,cur,h1,h2,h3,h4,h5,h6,h7⟩
 ·cases h1
 ·injection h1 with h1 h8 h9
  injection h1 with h1
  injection h1 with h1
  subst h1;subst h9;exact ⟨cur,h3,by simpa using h7,h4,h2⟩
def rTouch (u:List Int) (n:Int):List Int:=if (u.filter fun y=>y !=n).length=7 then (u.filter fun y=>y !=n)++[n] else u
theorem own_base {w:World} {base:Nat} {e:TypeId} {size n:Nat} {v:Value} {xs:List Value} (h:w.ownsRow base e size v n xs) (k:Nat) (hk:v.ownBlock=some k):base≤k:=(h.lt k hk).1
theorem own_slice {w:World} {base n:Nat} {e:TypeId} {size:Nat} {v:Value} {xs:List Value} (h:w.ownsRow base e size v n xs):∃A c,v= .slice A n c:=by
 rcases h.2 with ⟨rfl,rfl⟩|⟨g,cap,cur,rfl,_⟩
 ·exact ⟨none,0,rfl⟩
 ·exact ⟨_,_,rfl⟩
def TouchRel (w:World) (u:List Int) (n:Int) (v i:Value) (wr:World):Prop:=
 ∃k:Nat,k≤8∧i= .int .i64 k∧wr.ownsRow w.heap.size 3 1 v ((u.take k).filter fun y=>y !=n).length (ints ((u.take k).filter fun y=>y !=n))∧Below w.heap.size w wr
set_option maxHeartbeats 1000000 in
theorem rtouch_calls (g go gu cu:Nat) (o u:List Int) (n:Int) (w:World) (h:RefAt w g go gu cu o u):Calls Tryz.prog 91 #[.pointer (some ⟨g,0,none⟩),.int .i64 n] w fun e w'=>e= .returned (.tuple #[])∧Chg (·=g) w w'∧∃gu' cu',RefAt w' g go gu' cu' o (rTouch u n)∧(gu'=gu∨w.heap.size≤gu'):=by
 have hf1:=h.f1;have hlu:=h.lu;obtain ⟨hg,hgo,hgu⟩:=h.lt;obtain ⟨i0,hi,hz0,hz1,hz2⟩:=info_parts info_int;have HU:=Lib.hid h.use;have HL:=Lib.hid hlu;have HH:=Lib.hid h;have HF1:=Lib.hid hf1;have HN:Hid (i0.zero=some (.int .i64 0)∧i0.size=1∧i0.bytes=8∧Tryz.prog.info? 3=some i0):=⟨hz0,hz1,hz2,hi⟩
 clear h hlu hf1 hz0 hz1 hz2 hi;go_enter Tryz.func91,Tryz.ntmps91;go_wp2_with fail;go_loopw [4,5] (fun v i wr=>TouchRel w u n v i wr) (fun _ i _=>8-(intOf i).toNat)
 case atStart=>
  refine ⟨0,by decide,rfl,?_,(Below.refl _ _).alloc (Nat.le_refl _) _⟩
  have:=World.ownsRow_made (base:=w.heap.size) (e:=3) (size:=1) w #[] 0 (Nat.le_refl _) (by decide) rfl;simpa [ints] using this
 case round=>
  obtain ⟨k,hk,rfl,hown,hbel⟩:=hrel;have HB:=Lib.hid hbel;have hc1:wr.cell? ⟨g,1,none⟩=some (.slice (some ⟨gu,0,none⟩) 8 cu):=(HB.out.cell (p:=⟨g,1,none⟩) hg).trans HF1.out;have hsz:=HB.out.size
  by_cases hlt:k<8
  ·have hcx:wr.cell? ⟨gu,k,none⟩=some (.int .i64 (u.getD k 0)):=(HB.out.cell (p:=⟨gu,k,none⟩) hgu).trans (HU.out k hlt)
   have htk:u.take (k+1)=u.take k++[u.getD k 0]:=by
    rw [List.take_succ_eq_append_getElem (by rw [HL.out];exact hlt),List.getD_eq_getElem?_getD,List.getElem?_eq_getElem (by rw [HL.out];exact hlt)];rfl
   have HT:=Lib.hid htk;have HO:=Lib.hid hown;clear hbel hown htk;generalize (u.getD k 0:Int)=x at hcx HT
   by_cases hx:x=n
   ·have hb:(x !=n)=false:=by simp [hx]
    have HX:=Lib.hid hx;clear hx;go_wp2_with fail;go_roundw
    case rel=>
     refine ⟨k+1,by omega,by go_num,?_,HB.out⟩
     rw [HT.out,List.filter_append]
     have:[x].filter (fun y=>y !=n)=[]:=by simp [HX.out]
     rw [this,List.append_nil]
     exact HO.out
    case measure=>simp [intOf];omega
   ·have hb:(x !=n)=true:=by simp [hx]
    have HX:=Lib.hid hx;clear hx;have hll:((u.take k).filter (fun y=>y !=n)).length≤k:=Nat.le_trans (List.length_filter_le _ _) (List.length_take_le _ _)
    go_wp2_with (at_builtin;refine wpList_append_lies _ rfl (.tmp 20) (.tmp 28) 26 rfl w.heap.size 3 i0 (.int .i64 0) 1 8 Tryz.underlying26 HN.out.2.2.2 HN.out.1 HN.out.2.1 HN.out.2.2.1 rfl (by decide) _ _ _ rfl (HO.out.alloc _) ⟨wr.heap.size,0,none⟩ 1 1 [.int .i64 x] rfl rfl ?c1 ?c2 (by decide) ?c3 ?c4 ?c5 _ rfl ?_;(case c1=>exact World.news_of_block (heap_alloc_new wr _));(case c2=>intro q hq;simp at hq;subst hq;rfl);(case c3=>unfold maxLen;omega);(case c4=>omega);(case c5=>simp;omega);intro g1 cap1 w1 hown1 hgrow1 hat1 hlt1;have HO1:=Lib.hid hown1;have HG1:=Lib.hid hgrow1;clear hown1 hgrow1 hat1 hlt1)
    go_roundw
    case rel=>
     refine ⟨k+1,by omega,by go_num,?_,(HB.out.alloc hsz (.cells #[.int .i64 x] 3)).grown HG1.out (by simp;omega) (fun q hq=>own_base (HO.out.alloc (.cells #[.int .i64 x] 3)) q hq)⟩
     ·rw [HT.out,List.filter_append]
      have:[x].filter (fun y=>y !=n)=[x]:=by simp [HX.out]
      rw [this]
      have:=HO1.out;simpa [ints] using this
    case measure=>simp [intOf];omega
  ·obtain rfl:k=8:=by omega
   have ht8:u.take 8=u:=List.take_of_length_le (by rw [HL.out];exact Nat.le_refl _)
   rw [ht8] at hown;have hll:(u.filter (fun y=>y !=n)).length≤8:=Nat.le_trans (List.length_filter_le _ _) (by rw [HL.out];exact Nat.le_refl _)
   obtain ⟨A,c,rfl⟩:=own_slice hown;have HO:=Lib.hid hown;clear hbel hown
   by_cases h7:(u.filter (fun y=>y !=n)).length=7
   ·have hb:(((u.filter (fun y=>y !=n)).length:Int)==7)=true:=by rw [h7];rfl
    have H7:=Lib.hid h7;have hfz:wr.frozen? ⟨g,1,none⟩=false:=(HB.out.frozen (p:=⟨g,1,none⟩) hg).trans (frozen_of HH.out.blk 1)
    clear h7;go_wp2_with (at_builtin;refine wpList_append_lies _ rfl (.tmp 34) (.tmp 36) 26 rfl w.heap.size 3 i0 (.int .i64 0) 1 8 Tryz.underlying26 HN.out.2.2.2 HN.out.1 HN.out.2.1 HN.out.2.2.1 rfl (by decide) _ _ _ rfl (HO.out.alloc _) ⟨wr.heap.size,0,none⟩ 1 1 [.int .i64 n] rfl rfl ?d1 ?d2 (by decide) ?d3 ?d4 ?d5 _ rfl ?_;(case d1=>exact World.news_of_block (heap_alloc_new wr _));(case d2=>intro q hq;simp at hq;subst hq;rfl);(case d3=>unfold maxLen;omega);(case d4=>omega);(case d5=>simp;omega);intro g1 cap1 w1 hown1 hgrow1 hat1 hlt1;have HO1:=Lib.hid hown1;have hB1:=(HB.out.alloc hsz (.cells #[.int .i64 n] 3)).grown hgrow1 (by simp;omega) (fun q hq=>own_base (HO.out.alloc (.cells #[.int .i64 n] 3)) q hq);have hfz1:w1.frozen? ⟨g,1,none⟩=false:=(hB1.frozen (p:=⟨g,1,none⟩) hg).trans (frozen_of HH.out.blk 1);have hcs1:w1.cell? ⟨g,1,none⟩=some (.slice (some ⟨gu,0,none⟩) 8 cu):=(hB1.cell (p:=⟨g,1,none⟩) hg).trans HF1.out;have HB1:=Lib.hid hB1;clear hown1 hgrow1 hat1 hlt1 hB1)
    go_end0;refine ⟨rfl,?_,?_⟩
    ·exact (Chg.of_below HB1.out).trans (Chg.set (S:=(·=g)) _ rfl 1 _)
    ·obtain ⟨cells,hbc,hbt,hbl,hbb⟩:=own_cells HO1.out
     have hn:=HH.out.ne;have hne:g1≠g:=by omega
     refine ⟨g1,cap1,⟨?_,?_,⟨cells,?_,?_⟩,HH.out.lo,?_,?_⟩,.inr hbb⟩
     ·rw [heap_setCell_same w1 g 1 _ _ _ ((HB1.out.block _ hg).trans HH.out.blk),H7.out]
      rfl
     ·exact HH.out.offs.keep ((Below.heap_setCell w1 _ _ go (fun e=>hn.1 e.symm)).trans (HB1.out.block _ hgo))
     ·exact (Below.heap_setCell w1 _ _ g1 hne).trans hbc
     ·unfold rTouch
      rw [if_pos H7.out]
      rw [H7.out] at hbt;simpa [ints] using hbt
     ·unfold rTouch
      rw [if_pos H7.out,List.length_append,H7.out];rfl
     ·rw [H7.out] at hbl
      exact hbl
   ·have hb:(((u.filter (fun y=>y !=n)).length:Int)==7)=false:=by rw [beq_eq_false_iff_ne];omega
    go_wp2_with fail;go_end0;refine ⟨rfl,Chg.of_below HB.out,gu,cu,?_,.inl rfl⟩
    unfold rTouch;rw [if_neg h7]
    exact HH.out.keep (HB.out.block _ hg) (HB.out.block _ hgo) (HB.out.block _ hgu)
end Win
namespace Rfc
open Go.RowKit Win Stp Go.Proofs.YtooiooledeblmaaGreat.Lst Enc
theorem cnt8:∀u:List Int,(∀x∈u,0≤x∧x<8)→u.count 0+u.count 1+u.count 2+u.count 3+u.count 4+u.count 5+u.count 6+u.count 7=u.length
 |[],_=>rfl
 |x::u,h=>by
  have ih:=cnt8 u (fun y hy=>h y (List.mem_cons_of_mem _ hy))
  have hx:=h x List.mem_cons_self;have:x=0∨x=1∨x=2∨x=3∨x=4∨x=5∨x=6∨x=7:=by omega
  rcases this with rfl|rfl|rfl|rfl|rfl|rfl|rfl|rfl <;>simp only [List.count_cons,List.length_cons] <;>simp <;>omega
theorem eg_nodup {m:E} (h:EG m):m.u.Nodup:=by
 have hs:=cnt8 m.u h.ru;rw [h.lu] at hs;have hp:∀n:Int,0≤n→n<8→1≤m.u.count n:=fun n h0 h8=>List.count_pos_iff.2 (h.mem n h0 h8)
 have h0:=hp 0 (by decide) (by decide)
 have h1:=hp 1 (by decide) (by decide)
 have h2:=hp 2 (by decide) (by decide)
 have h3:=hp 3 (by decide) (by decide)
 have h4:=hp 4 (by decide) (by decide)
 have h5:=hp 5 (by decide) (by decide)
 have h6:=hp 6 (by decide) (by decide)
 have h7:=hp 7 (by decide) (by decide)
 rw [List.nodup_iff_count]
 intro n
 by_cases hn:n∈m.u
 ·have:=h.ru n hn
  have:n=0∨n=1∨n=2∨n=3∨n=4∨n=5∨n=6∨n=7:=by omega
  rcases this with rfl|rfl|rfl|rfl|rfl|rfl|rfl|rfl <;>omega
 ·rw [List.count_eq_zero_of_not_mem hn];omega
theorem touch_same {m:E} (h:EG m) {n:Int} (n0:0≤n) (n8:n<8):rTouch m.u n=wTouch m.u n:=by
 unfold rTouch wTouch;have hm:=h.mem n n0 n8;rw [if_pos (show 0≤n∧n<8 from ⟨n0,n8⟩),←(eg_nodup h).erase_eq_filter n,if_pos (by rw [List.length_erase_of_mem hm,h.lu])]
theorem find_same (o:List Int) (c:Int):rFind o c=if (wFind o c).2=true then (wFind o c).1 else -1:=by
 have key:∀(l:List Int) (k:Nat),rFindFrom c k l=if (findFrom c k l).2=true then (findFrom c k l).1 else -1:=by
  intro l
  induction l with
  |nil=>intro k;rfl
  |cons x l ih=>
   intro k;unfold rFindFrom findFrom
   by_cases hx:hld x c=true
   ·rw [if_pos hx,if_pos hx];rfl
   ·rw [if_neg hx,if_neg hx];exact ih _
 exact key o 0
theorem refAt_setO {w:World} {g go gu cu:Nat} {o u:List Int} (h:RefAt w g go gu cu o u) (j:Nat) (c:Int):RefAt (w.setCell ⟨go,j,none⟩ (.int .u32 c)) g go gu cu (o.set j c) u:=by
 obtain ⟨h1,h2,h3⟩:=h.ne;obtain ⟨cells,hb,ht⟩:=h.used;exact ⟨(Below.heap_setCell w _ _ g h1).trans h.blk,h.offs.set j c,⟨cells,(Below.heap_setCell w _ _ gu (fun e=>h3 e.symm)).trans hb,ht⟩,by simp [h.lo],h.lu,h.hc⟩
structure StAt (B:Nat) (w:World) (g gw go gu cu:Nat) (v:Value) (x:Int) (S:List Int) (m:E) (d:Int):Prop where
 blk:w.heap[g]? =some (.cells #[v,.pointer (some ⟨gw,0,none⟩),.bool m.uni,.int .i64 m.act,.int .u32 x,.bool (d !=2147483648)] 101 (0,0))
 win:RefAt w gw go gu cu m.o m.u
 row:w.ownsRow B 5 1 v S.length (Out.u8s S)
 nx:d≠2147483648→x=d
 sl:S.length≤500000
 bg:B≤g
 bw:B≤gw
 bo:B≤go
 bu:B≤gu
 bs:B≤w.heap.size
theorem own_ne {w:World} {B:Nat} {T T':TypeId} {v:Value} {n:Nat} {cs:List Value} {g:Nat} {c:Array Value} {fz:Nat×Nat} (h:w.ownsRow B T 1 v n cs) (hg:w.heap[g]? =some (.cells c T' fz)) (hT:T≠T'):v.ownBlock≠some g:=by
 intro e;rcases h.2 with ⟨h1,_⟩|⟨g',cap,cur,h1,_,hb,_⟩
 ·rw [h1] at e;cases e
 ·rw [h1] at e
  injection e with e
  subst e;have:=hg.symm.trans hb;injection this with this
  injection this with h2 h3
  exact hT h3.symm
section
variable {B:Nat} {w w':World} {g gw go gu cu:Nat} {v:Value} {x:Int} {S:List Int} {m:E} {d:Int}
theorem StAt.lt (h:StAt B w g gw go gu cu v x S m d):g<w.heap.size:=(Array.getElem?_eq_some_iff.1 h.blk).1
theorem StAt.f0 (h:StAt B w g gw go gu cu v x S m d):w.cell? ⟨g,0,none⟩=some v:=by rw [cell_of h.blk];rfl
theorem StAt.f1 (h:StAt B w g gw go gu cu v x S m d):w.cell? ⟨g,1,none⟩=some (.pointer (some ⟨gw,0,none⟩)):=by rw [cell_of h.blk];rfl
theorem StAt.f2 (h:StAt B w g gw go gu cu v x S m d):w.cell? ⟨g,2,none⟩=some (.bool m.uni):=by rw [cell_of h.blk];rfl
theorem StAt.f3 (h:StAt B w g gw go gu cu v x S m d):w.cell? ⟨g,3,none⟩=some (.int .i64 m.act):=by rw [cell_of h.blk];rfl
theorem StAt.f4 (h:StAt B w g gw go gu cu v x S m d):w.cell? ⟨g,4,none⟩=some (.int .u32 x):=by rw [cell_of h.blk];rfl
theorem StAt.f5 (h:StAt B w g gw go gu cu v x S m d):w.cell? ⟨g,5,none⟩=some (.bool (d !=2147483648)):=by rw [cell_of h.blk];rfl
theorem StAt.fz (h:StAt B w g gw go gu cu v x S m d):∀j,w.frozen? ⟨g,j,none⟩=false:=frozen_of h.blk
theorem StAt.ne (h:StAt B w g gw go gu cu v x S m d):gw≠g∧go≠g∧gu≠g:=by
 obtain ⟨cells,hb,_⟩:=h.win.used;refine ⟨?_,?_,?_⟩ <;>rintro rfl
 ·have:=h.blk.symm.trans h.win.blk;simp at this
 ·have:=h.blk.symm.trans h.win.offs.blk;simp at this
 ·have:=h.blk.symm.trans hb;simp at this
theorem StAt.below (h:StAt B w g gw go gu cu v x S m d) (hb:Below w.heap.size w w'):StAt B w' g gw go gu cu v x S m d:=by
 obtain ⟨l1,l2,l3⟩:=h.win.lt;exact ⟨(hb.block g h.lt).trans h.blk,h.win.keep (hb.block gw l1) (hb.block go l2) (hb.block gu l3),Out.own_chg h.row (Chg.of_below (S:=fun _=>False) hb) (fun _ _ h=>h),h.nx,h.sl,h.bg,h.bw,h.bo,h.bu,Nat.le_trans h.bs hb.size⟩
theorem StAt.drewN (h:StAt B w g gw go gu cu v x S m d) (n:Nat):StAt B (w.drewN n) g gw go gu cu v x S m d:=h.below (below_drewN (Below.refl _ _) n)
theorem StAt.set (h:StAt B w g gw go gu cu v x S m d) (j:Nat) (y:Value) {x':Int} {m':E} {d':Int} (he:(#[v,.pointer (some ⟨gw,0,none⟩),.bool m.uni,.int .i64 m.act,.int .u32 x,.bool (d !=2147483648)]:Array Value).setIfInBounds j y=#[v,.pointer (some ⟨gw,0,none⟩),.bool m'.uni,.int .i64 m'.act,.int .u32 x',.bool (d' !=2147483648)]) (ho:m'.o=m.o) (hu:m'.u=m.u) (hn:d'≠2147483648→x'=d'):StAt B (w.setCell ⟨g,j,none⟩ y) g gw go gu cu v x' S m' d':=by
 obtain ⟨n1,n2,n3⟩:=h.ne;refine ⟨by rw [heap_setCell_same w g j _ _ _ h.blk,he],?_,Out.own_chg h.row (Chg.set (S:=fun i=>i=g) w rfl j y) (fun k hk e=>own_ne h.row h.blk (by decide) (e▸hk)),hn,h.sl,h.bg,h.bw,h.bo,h.bu,by simpa [World.setCell] using h.bs⟩
 rw [ho,hu]
 exact h.win.keep (Below.heap_setCell w _ _ gw n1) (Below.heap_setCell w _ _ go n2) (Below.heap_setCell w _ _ gu n3)
theorem StAt.setB (h:StAt B w g gw go gu cu v x S m d) (j:Nat) (y:Value):Below B w (w.setCell ⟨g,j,none⟩ y):=(Below.refl B w).setCell (by exact h.bg) y
end
def St (B:Nat) (w:World) (g:Nat) (S:List Int) (m:E) (d:Int):Prop:=∃gw go gu cu v x,StAt B w g gw go gu cu v x S m d
def SPost (B:Nat) (w:World) (g:Nat) (r:Value) (S:List Int) (m:E) (d:Int) (e:Ending) (w':World):Prop:=e= .returned r∧St B w' g S m d∧Below B w w'
theorem put_calls {B:Nat} {w:World} {g n c:Nat} {S:List Int} {m:E} {d:Int} {A:Option Addr} {xs:List Int} (h:St B w g S m d) (hA:Lst w .u8 A xs) (hn:xs.length=n) (hnil:A=none→c=0) (hl:(S++xs).length≤500000):Calls Tryz.prog 52 #[.pointer (some ⟨g,0,none⟩),.slice A n c] w (SPost B w g (.tuple #[]) (S++xs) m d):=by
 obtain ⟨gw,go,gu,cu,v,x,h⟩:=h;have f0:=h.f0;have hs:=h.bs;have hll:=hl;rw [List.length_append] at hll;have hz:∀(v':Value) (w2:World),w2.ownsRow B 5 1 v' (S++xs).length (Out.u8s (S++xs))→w.grownBy w2 v.ownBlock→w2.frozen? ⟨g,0,none⟩=false∧w2.cell? ⟨g,0,none⟩=some v∧St B (w2.setCell ⟨g,0,none⟩ v') g (S++xs) m d∧Below B w (w2.setCell ⟨g,0,none⟩ v'):=by
  intro v' w2 h1 h2;have hk:∀k:Nat,k<w.heap.size→v.ownBlock≠some k→w2.heap[k]? =w.heap[k]? :=fun k hk hne=>h2.block k hk (fun e=>hne e.symm)
  obtain ⟨cells,hb,_⟩:=h.win.used;obtain ⟨l1,l2,l3⟩:=h.win.lt;have kg:=(hk g h.lt (own_ne h.row h.blk (by decide))).trans h.blk;have kw:=h.win.keep (hk gw l1 (own_ne h.row h.win.blk (by decide))) (hk go l2 (own_ne h.row h.win.offs.blk (by decide))) (hk gu l3 (own_ne h.row hb (by decide)))
  obtain ⟨n1,n2,n3⟩:=h.ne;have hB2:Below B w w2:=(Below.refl B w).grown h2 h.bs (fun k hk=>(h.row.lt k hk).1)
  refine ⟨frozen_of kg 0,by rw [cell_of kg];rfl,⟨gw,go,gu,cu,v',x,?_,kw.keep (Below.heap_setCell w2 _ _ gw n1) (Below.heap_setCell w2 _ _ go n2) (Below.heap_setCell w2 _ _ gu n3),Out.own_chg h1 (Chg.set (S:=fun i=>i=g) w2 rfl 0 v') (fun k hk e=>own_ne h1 kg (by decide) (e▸hk)),h.nx,hl,h.bg,h.bw,h.bo,h.bu,?_⟩,hB2.setCell (by exact h.bg) v'⟩
  ·rw [heap_setCell_same w2 g 0 _ _ _ kg];rfl
  ·have:=hB2.size;have:=h.bs;simp [World.setCell];omega
 obtain ⟨T,hT⟩:∃T,T=S++xs:=⟨_,rfl⟩
 rw [←hT] at hz ⊢;have HT:=Lib.hid hT;have HZ:=Lib.hid hz;have H:=Lib.hid h;have HA:=Lib.hid hA;clear hz h hA hT hl;go_enter Tryz.func52,Tryz.ntmps52;go_wp2_with (at_builtin;refine Ref.appz rfl rfl _ _ rfl B _ S rfl H.out.row xs T HT.out A n c rfl hn HA.out hnil (by omega) hs ?_;intro v' w2 h1 h2;obtain ⟨z1,z2,z3,z4⟩:=HZ.out v' w2 h1 h2;obtain ⟨A2,c2,rfl⟩:=owns_form h1;have H3:=Lib.hid z3;have H4:=Lib.hid z4;clear h1 h2 z3 z4)
 go_end0;exact ⟨rfl,H3.out,H4.out⟩
end Rfc
end Go.Proofs.YtooiooledeblmaaGreat
