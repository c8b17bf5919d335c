/- UTF-16's and UTF-32's encoders: a scalar's bytes. How the other encoders are fed. codec.Encode by the encoder uni8.Encoder. codec.Encode by the encoder uni16.Encoder. codec.Encode by the encoder uni32.Encoder. codec.Encode by the encoder ebcdic.Encoder. -/
import Derived.Test.YtooiooledeblmaaGreatZ11
import Derived.Lib.EndianBits
import Derived.Laws.BitsAllLaws
set_option linter.unusedVariables false
set_option linter.unusedSimpArgs false
namespace Go.Proofs.YtooiooledeblmaaGreat
namespace Out
open Go.RowKit Win Stp Lst
def unitB (big:Bool) (u:Int):List Int:=if big=true then [u/256,u%256] else [u%256,u/256]
def uni16B (big:Bool) (c:Int):List Int:=if c<65536 then unitB big c else unitB big (55296+(c-65536)/1024)++unitB big (56320+(c-65536)%1024)
def UPost (w:World) (l:List Int) (e:Ending) (w':World):Prop:=e= .returned (.string (strOfNums l))∧Below w.heap.size w w'
set_option maxHeartbeats 2000000 in
theorem unit_calls (g:Nat) (big:Bool) (u:Int) (w:World) (h:w.cell? ⟨g,5,none⟩=some (.bool big)) (h0:0≤u) (h1:u≤65535):
  Calls Tryz.prog 152 #[.pointer (some ⟨g,0,none⟩),.int .u32 u] w (UPost w (unitB big u)):=by
 have w1:IntKind.u8.wrap u=u%256:=by rw [IntKind.wrap_u8]
 cases big with
 |true=>
  have hcv:(convert 68 9 (.slice (some ⟨w.heap.size,0,none⟩) 2 2)).run Tryz.prog (w.alloc (.cells #[.int .u8 (u/256),.int .u8 (u%256)] 5))= .ok (.string (strOfNums [u/256,u%256])) (w.alloc (.cells #[.int .u8 (u/256),.int .u8 (u%256)] 5)):=conv_new w [u/256,u%256] 2 rfl;go_enter Tryz.func152,Tryz.ntmps152;go_wp2;go_ret;exact ⟨rfl,(Below.refl _ _).alloc (Nat.le_refl _) _⟩
 |false=>
  have hcv:(convert 68 9 (.slice (some ⟨w.heap.size,0,none⟩) 2 2)).run Tryz.prog (w.alloc (.cells #[.int .u8 (u%256),.int .u8 (u/256)] 5))= .ok (.string (strOfNums [u%256,u/256])) (w.alloc (.cells #[.int .u8 (u%256),.int .u8 (u/256)] 5)):=conv_new w [u%256,u/256] 2 rfl;go_enter Tryz.func152,Tryz.ntmps152;go_wp2;go_ret;exact ⟨rfl,(Below.refl _ _).alloc (Nat.le_refl _) _⟩
theorem unitB_len (big:Bool) (u:Int):(unitB big u).length=2:=by unfold unitB;split <;>rfl
set_option maxHeartbeats 2000000 in
theorem uni16_bytes (g:Nat) (big:Bool) (c:Int) (w:World) (h:w.cell? ⟨g,5,none⟩=some (.bool big)) (h0:0≤c) (hb:isB c=true):
  Calls Tryz.prog 151 #[.pointer (some ⟨g,0,none⟩),.int .u32 c] w (UPost w (uni16B big c)):=by
 have hb1:=(isB_iff.1 hb).1;have hlt:g<w.heap.size:=World.block_lt_of_cell? w ⟨g,5,none⟩ h;unfold uni16B
 by_cases hc:c<65536
 ·rw [if_pos hc]
  have HU:=Lib.hid (unit_calls g big c w h h0 (by omega))
  go_enter Tryz.func151,Tryz.ntmps151;go_wp2_with fail;refine HU.out.mono ?_;rintro e w1 ⟨rfl,hb⟩
  have HB:=Lib.hid hb;clear hb;go_wp2_with fail;go_ret;exact ⟨rfl,HB.out⟩
 ·rw [if_neg hc]
  have or1:bits .or .u32 55296 ((c-65536)/1024)=55296+(c-65536)/1024:=bits_join .u32 32 (by decide) wraps_u32 10 55296 _ (by omega) (by omega) (by omega) (by omega) (by omega) (by omega)
  have or2:bits .or .u32 56320 ((c-65536)%1024)=56320+(c-65536)%1024:=bits_join .u32 32 (by decide) wraps_u32 10 56320 _ (by omega) (by omega) (by omega) (by omega) (by omega) (by omega)
  have an:bits .and .u32 (c-65536) 1023=(c-65536)%1024:=bits_mask .u32 32 (by decide) wraps_u32 10 (by decide) (c-65536) (by omega) (by omega)
  obtain ⟨x,hx⟩:∃x,x=55296+(c-65536)/1024:=⟨_,rfl⟩
  obtain ⟨y,hy⟩:∃y,y=56320+(c-65536)%1024:=⟨_,rfl⟩
  rw [←hx] at or1 ⊢;rw [←hy] at or2 ⊢;have hxr:0≤x∧x≤65535:=by omega
  have hyr:0≤y∧y≤65535:=by omega
  have HU:=Lib.hid (unit_calls g big x w h hxr.1 hxr.2)
  have HV:=Lib.hid (fun w h=>unit_calls g big y w h hyr.1 hyr.2)
  have s1:=str_size (unitB big x)
  have s2:=str_size (unitB big y)
  rw [unitB_len] at s1 s2;have HA:=Lib.hid (str_append (unitB big x) (unitB big y))
  have H:=Lib.hid (And.intro h hlt)
  clear hx hy h hlt;go_enter Tryz.func151,Tryz.ntmps151;go_wp2_with fail;refine HU.out.mono ?_;rintro e w1 ⟨rfl,hb⟩
  have hc5:w1.cell? ⟨g,5,none⟩=some (.bool big):=by rw [World.cell?_of_block (hb.block g H.out.2)];exact H.out.1
  have HB:=Lib.hid hb;have HV1:=Lib.hid (HV.out w1 hc5)
  clear hb hc5;go_wp2_with fail;refine HV1.out.mono ?_;rintro e w2 ⟨rfl,hb2⟩
  have HB2:=Lib.hid hb2;clear hb2;go_wp2_with fail;go_ret;refine ⟨?_,HB.out.trans (Below.mono HB2.out HB.out.size)⟩
  rw [←HA.out]
  rfl
def uni32B (big:Bool) (c:Int):List Int:=if big=true then [c/16777216,c/65536%256,c/256%256,c%256] else [c%256,c/256%256,c/65536%256,c/16777216]
set_option maxHeartbeats 2000000 in
theorem uni32_bytes (g:Nat) (big:Bool) (c:Int) (w:World) (h:w.cell? ⟨g,5,none⟩=some (.bool big)) (h0:0≤c) (hb:isB c=true):
  Calls Tryz.prog 154 #[.pointer (some ⟨g,0,none⟩),.int .u32 c] w (UPost w (uni32B big c)):=by
 have hb1:=(isB_iff.1 hb).1;have w1:IntKind.u8.wrap c=c%256:=by rw [IntKind.wrap_u8]
 have w2:IntKind.u8.wrap (c/256)=c/256%256:=by rw [IntKind.wrap_u8]
 have w3:IntKind.u8.wrap (c/65536)=c/65536%256:=by rw [IntKind.wrap_u8]
 have w4:IntKind.u8.wrap (c/16777216)=c/16777216:=by rw [IntKind.wrap_u8];omega
 cases big with
 |true=>
  have hcv:(convert 68 9 (.slice (some ⟨w.heap.size,0,none⟩) 4 4)).run Tryz.prog (w.alloc (.cells #[.int .u8 (c/16777216),.int .u8 (c/65536%256),.int .u8 (c/256%256),.int .u8 (c%256)] 5))= .ok (.string (strOfNums [c/16777216,c/65536%256,c/256%256,c%256])) (w.alloc (.cells #[.int .u8 (c/16777216),.int .u8 (c/65536%256),.int .u8 (c/256%256),.int .u8 (c%256)] 5)):=conv_new w [c/16777216,c/65536%256,c/256%256,c%256] 4 rfl;go_enter Tryz.func154,Tryz.ntmps154;go_wp2;go_ret;exact ⟨rfl,(Below.refl _ _).alloc (Nat.le_refl _) _⟩
 |false=>
  have hcv:(convert 68 9 (.slice (some ⟨w.heap.size,0,none⟩) 4 4)).run Tryz.prog (w.alloc (.cells #[.int .u8 (c%256),.int .u8 (c/256%256),.int .u8 (c/65536%256),.int .u8 (c/16777216)] 5))= .ok (.string (strOfNums [c%256,c/256%256,c/65536%256,c/16777216])) (w.alloc (.cells #[.int .u8 (c%256),.int .u8 (c/256%256),.int .u8 (c/65536%256),.int .u8 (c/16777216)] 5)):=conv_new w [c%256,c/256%256,c/65536%256,c/16777216] 4 rfl;go_enter Tryz.func154,Tryz.ntmps154;go_wp2;go_ret;exact ⟨rfl,(Below.refl _ _).alloc (Nat.le_refl _) _⟩
end Out
namespace Out
open Go.RowKit Win Stp Lst
set_option maxRecDepth 100000 in
set_option maxHeartbeats 8000000 in
theorem uni8_feed {T:TypeId} {R:Type} {rest:R→List Value} {B:R→Int→List Int} {N:R→Int→R} {I:R→Prop} {r:R} {w:World} {g:Nat} {l:List Int} {A:Option Addr} {cap:Nat} (room:Int) (h:OutAt T w g b40 [] (rest r))
  (hby:∀(r:R) (c:Int) (w':World) (b:B4) (l:List Int),I r→OutAt T w' g b l (rest r)→0≤c→isB c=true→l.length≤1000→Calls Tryz.prog 147 #[.pointer (some ⟨g,0,none⟩),.int .u32 c] w' fun e w2=>e= .returned (.string (strOfNums (B r c)))∧OutAt T w2 g b l (rest (N r c))∧Chg (ES g) w' w2)
  (hB:∀r c,(B r c).length≤5) (hI:I r) (hIN:∀r c,I r→0≤c→isB c=true→I (N r c))
  (hl:l.length≤600) (hA:∀wr,Chg (ES g) w wr→Lst wr .u32 A l) (hr:∀x∈l,0≤x∧isB x=true) (r1:4096≤room) (r2:room≤1000000):
  Calls Tryz.prog 141 #[.pointer (some ⟨g,0,none⟩),.slice A l.length cap,.int .i64 room] w (FeedPost T rest B N r w g l):=by
 have hgi:=give_calls room h (by decide) (by simp;omega)
 have H:=Lib.hid h;have HBy:=Lib.hid hby;have HA:=Lib.hid hA;have HR:=Lib.hid hr;have HI:=Lib.hid (fun n=>fold_inv hIN (l.take n) r hI (fun x hx=>hr x (List.mem_of_mem_take hx)))
 have HGi:=Lib.hid hgi;clear h hby hA hr hgi hI hIN;go_enter Tryz.func141,Tryz.ntmps141;go_wp2_with fail;refine HGi.out.mono ?_;rintro e w1 ⟨rfl,h1,hc1⟩
 have H1:=Lib.hid h1;have HC1:=Lib.hid hc1;clear h1 hc1;go_wp2_with fail;go_loopw [8,9] (fun vo i wr=>FeedRel T rest B N r w g l vo i wr) (fun _ i _=>l.length-(intOf i).toNat)
 case atStart=>exact ⟨0,Nat.zero_le _,rfl,rfl,H1.out,HC1.out⟩
 case round=>
  obtain ⟨n,hn,rfl,rfl,ho,hc⟩:=hrel;have hsl:=told_len N hB (l.take n) r;have hln:(l.take n).length=n:=by rw [List.length_take];omega
  rw [hln] at hsl;have HO:=Lib.hid ho;have HC:=Lib.hid hc;have HKe:=Lib.hid (kept_calls ho (by decide))
  have hgoing:=going_calls g _ wr ho.base;have hge:({b40 with at_:=(n:Int)}:B4).going=true:=rfl;rw [hge] at hgoing;have HGg:=Lib.hid hgoing;have hXs:=str_size (told B N r (l.take n))
  clear ho hc hgoing hge hln
  by_cases hlt:n<l.length
  ·obtain ⟨a,rfl,q⟩:=(HA.out wr HC.out) n hlt
   have hrx:=HR.out (l.getD n 0) (by rw [List.getD_eq_getElem?_getD,List.getElem?_eq_getElem hlt];exact List.getElem_mem _)
   have htk:l.take (n+1)=l.take n++[l.getD n 0]:=by rw [List.take_succ_eq_append_getElem hlt,List.getD_eq_getElem?_getD,List.getElem?_eq_getElem hlt];rfl
   obtain ⟨t1,t2⟩:=told_snoc B N (l.getD n 0) (l.take n) r;rw [←htk] at t1 t2;have hA2:=HA.out;obtain ⟨x,hx⟩:∃x,x=l.getD n 0:=⟨_,rfl⟩
   have hq2:∀w2,Chg (ES g) wr w2→w2.cell? (a.add n)=some (.int .u32 x):=fun w2 hc2=>by
    obtain ⟨a2,ha2,q2⟩:=(HA.out w2 (HC.out.trans hc2)) n hlt;injection ha2 with ha2
    rw [←ha2] at q2;rw [q2,hx]
   rw [←hx] at q hrx t1 t2;obtain ⟨x0,xb⟩:=hrx;have hisx:=sis_calls x;rw [xb] at hisx;obtain ⟨S,hS⟩:∃S,S=told B N r (l.take n):=⟨_,rfl⟩
   obtain ⟨rn,hrn⟩:∃q,q=foldN N r (l.take n):=⟨_,rfl⟩
   rw [←hS,←hrn] at t1;rw [←hrn] at t2;rw [←hrn] at HO;have HIn:=Lib.hid (show I rn by rw [hrn];exact HI.out n)
   rw [←hS] at hXs hsl;rw [←hS]
   have HIs:=Lib.hid hisx;have HXB:=Lib.hid xb;have HT:=Lib.hid (And.intro t1 t2)
   have hbx:=hB rn x;have HQ2:=Lib.hid hq2;clear hisx xb t1 t2 hx htk hA2 hS hrn hq2;go_wp2_with fail;refine HKe.out.mono ?_;rintro e w2 ⟨rfl,rfl⟩
   go_wp2_with fail;refine HGg.out.mono ?_;rintro e w2 ⟨rfl,rfl⟩
   go_wp2_with fail;refine (HIs.out _).mono ?_;rintro e w2 ⟨rfl,rfl⟩
   go_upto_region 6 with fail;go_cut [] from 16 to 74 (fun wx=>OutAt T wx g {b40 with at_:=(n:Int)} (B rn x) (rest (N rn x))∧Chg (ES g) wr wx)
   case first=>
    have hd0:=Lib.hid (HO.out.drewN 1)
    go_region_with (first|(go_at_call 147;refine (HBy.out rn x _ _ _ HIn.out hd0.out x0 HXB.out (by decide)).mono ?_;rintro e w2 ⟨rfl,ho2,hc2⟩;have HO2:=Lib.hid ho2;have HC2:=Lib.hid ((Chg.drew (S:=ES g) _).trans hc2);clear ho2 hc2)|(go_at_call 146;refine (keep_calls (B rn x) HO2.out (by decide) (by omega)).mono ?_;rintro e w3 ⟨rfl,ho3,hc3⟩;have HO3:=Lib.hid ho3;have HC3:=Lib.hid (HC2.out.trans hc3);clear ho3 hc3))
    all_goals
     go_wp2_with fail;go_meet;exact ⟨HO3.out,HC3.out⟩
   case rest=>
    obtain ⟨ho2,hc2⟩:=hcut;have hea:=eat_calls g _ 1 wc ho2.base rfl (by decide) (by decide) (show (0:Int)≤(n:Int) by omega) (show (n:Int)≤1000000000 by omega)
    have HO2:=Lib.hid ho2;have HC2:=Lib.hid hc2;have HEa:=Lib.hid hea;clear ho2 hc2 hea;go_wp2_with fail;refine HEa.out.mono ?_;rintro e w3 ⟨rfl,rfl⟩
    have ho3:=HO2.out.setAt ((n:Int)+1)
    obtain ⟨w3,hw3⟩:∃w3,w3=wc.setCell ⟨g,0,none⟩ (.int .i64 ((n:Int)+1)):=⟨_,rfl⟩
    have hw3':wc.setCell ⟨g,0,none⟩ (.int .i64 (({b40 with at_:=(n:Int)}:B4).at_+1))=w3:=hw3.symm;have HC3:=Lib.hid (show Chg (ES g) wr w3 by rw [hw3];exact HC2.out.trans (es_g 0 _))
    rw [←hw3] at ho3;rw [hw3']
    have hgv:=give_calls (room-(S.length:Int)) ho3 (by omega) (by omega)
    have HGv:=Lib.hid hgv;clear hw3 hw3' ho3 hgv;go_wp2_with fail;refine HGv.out.mono ?_;rintro e w4 ⟨rfl,ho4,hc4⟩
    have HO4:=Lib.hid ho4;have HC4:=Lib.hid (HC3.out.trans hc4)
    have hT:=str_size (B rn x)
    have happ:=str_append S (B rn x)
    have HAp:=Lib.hid happ;clear ho4 hc4;go_wp2_with fail;go_roundw
    case rel=>
     refine ⟨n+1,hlt,by rw [HT.out.1],by go_num,?_,HC.out.trans HC4.out⟩
     rw [HT.out.2]
     have:=HO4.out;simpa using this
    case measure=>simp [intOf];omega
  ·obtain rfl:n=l.length:=by omega
   obtain ⟨S,hS⟩:∃S,S=told B N r (l.take l.length):=⟨_,rfl⟩
   rw [←hS]
   have HS:=Lib.hid hS;clear hS;go_wp2_with fail;go_ret2;have hS:=HS.out;have hO:=HO.out;rw [List.take_length] at hS hO;exact ⟨by rw [←hS];rfl,hO,HC.out⟩
set_option maxRecDepth 100000 in
set_option maxHeartbeats 8000000 in
theorem uni16_feed {T:TypeId} {R:Type} {rest:R→List Value} {B:R→Int→List Int} {N:R→Int→R} {I:R→Prop} {r:R} {w:World} {g:Nat} {l:List Int} {A:Option Addr} {cap:Nat} (room:Int) (h:OutAt T w g b40 [] (rest r))
  (hby:∀(r:R) (c:Int) (w':World) (b:B4) (l:List Int),I r→OutAt T w' g b l (rest r)→0≤c→isB c=true→l.length≤1000→Calls Tryz.prog 151 #[.pointer (some ⟨g,0,none⟩),.int .u32 c] w' fun e w2=>e= .returned (.string (strOfNums (B r c)))∧OutAt T w2 g b l (rest (N r c))∧Chg (ES g) w' w2)
  (hB:∀r c,(B r c).length≤5) (hI:I r) (hIN:∀r c,I r→0≤c→isB c=true→I (N r c))
  (hl:l.length≤600) (hA:∀wr,Chg (ES g) w wr→Lst wr .u32 A l) (hr:∀x∈l,0≤x∧isB x=true) (r1:4096≤room) (r2:room≤1000000):
  Calls Tryz.prog 150 #[.pointer (some ⟨g,0,none⟩),.slice A l.length cap,.int .i64 room] w (FeedPost T rest B N r w g l):=by
 have hgi:=give_calls room h (by decide) (by simp;omega)
 have H:=Lib.hid h;have HBy:=Lib.hid hby;have HA:=Lib.hid hA;have HR:=Lib.hid hr;have HI:=Lib.hid (fun n=>fold_inv hIN (l.take n) r hI (fun x hx=>hr x (List.mem_of_mem_take hx)))
 have HGi:=Lib.hid hgi;clear h hby hA hr hgi hI hIN;go_enter Tryz.func150,Tryz.ntmps150;go_wp2_with fail;refine HGi.out.mono ?_;rintro e w1 ⟨rfl,h1,hc1⟩
 have H1:=Lib.hid h1;have HC1:=Lib.hid hc1;clear h1 hc1;go_wp2_with fail;go_loopw [8,9] (fun vo i wr=>FeedRel T rest B N r w g l vo i wr) (fun _ i _=>l.length-(intOf i).toNat)
 case atStart=>exact ⟨0,Nat.zero_le _,rfl,rfl,H1.out,HC1.out⟩
 case round=>
  obtain ⟨n,hn,rfl,rfl,ho,hc⟩:=hrel;have hsl:=told_len N hB (l.take n) r;have hln:(l.take n).length=n:=by rw [List.length_take];omega
  rw [hln] at hsl;have HO:=Lib.hid ho;have HC:=Lib.hid hc;have HKe:=Lib.hid (kept_calls ho (by decide))
  have hgoing:=going_calls g _ wr ho.base;have hge:({b40 with at_:=(n:Int)}:B4).going=true:=rfl;rw [hge] at hgoing;have HGg:=Lib.hid hgoing;have hXs:=str_size (told B N r (l.take n))
  clear ho hc hgoing hge hln
  by_cases hlt:n<l.length
  ·obtain ⟨a,rfl,q⟩:=(HA.out wr HC.out) n hlt
   have hrx:=HR.out (l.getD n 0) (by rw [List.getD_eq_getElem?_getD,List.getElem?_eq_getElem hlt];exact List.getElem_mem _)
   have htk:l.take (n+1)=l.take n++[l.getD n 0]:=by rw [List.take_succ_eq_append_getElem hlt,List.getD_eq_getElem?_getD,List.getElem?_eq_getElem hlt];rfl
   obtain ⟨t1,t2⟩:=told_snoc B N (l.getD n 0) (l.take n) r;rw [←htk] at t1 t2;have hA2:=HA.out;obtain ⟨x,hx⟩:∃x,x=l.getD n 0:=⟨_,rfl⟩
   have hq2:∀w2,Chg (ES g) wr w2→w2.cell? (a.add n)=some (.int .u32 x):=fun w2 hc2=>by
    obtain ⟨a2,ha2,q2⟩:=(HA.out w2 (HC.out.trans hc2)) n hlt;injection ha2 with ha2
    rw [←ha2] at q2;rw [q2,hx]
   rw [←hx] at q hrx t1 t2;obtain ⟨x0,xb⟩:=hrx;have hisx:=sis_calls x;rw [xb] at hisx;obtain ⟨S,hS⟩:∃S,S=told B N r (l.take n):=⟨_,rfl⟩
   obtain ⟨rn,hrn⟩:∃q,q=foldN N r (l.take n):=⟨_,rfl⟩
   rw [←hS,←hrn] at t1;rw [←hrn] at t2;rw [←hrn] at HO;have HIn:=Lib.hid (show I rn by rw [hrn];exact HI.out n)
   rw [←hS] at hXs hsl;rw [←hS]
   have HIs:=Lib.hid hisx;have HXB:=Lib.hid xb;have HT:=Lib.hid (And.intro t1 t2)
   have hbx:=hB rn x;have HQ2:=Lib.hid hq2;clear hisx xb t1 t2 hx htk hA2 hS hrn hq2;go_wp2_with fail;refine HKe.out.mono ?_;rintro e w2 ⟨rfl,rfl⟩
   go_wp2_with fail;refine HGg.out.mono ?_;rintro e w2 ⟨rfl,rfl⟩
   go_wp2_with fail;refine (HIs.out _).mono ?_;rintro e w2 ⟨rfl,rfl⟩
   go_upto_region 6 with fail;go_cut [] from 16 to 74 (fun wx=>OutAt T wx g {b40 with at_:=(n:Int)} (B rn x) (rest (N rn x))∧Chg (ES g) wr wx)
   case first=>
    have hd0:=Lib.hid (HO.out.drewN 1)
    go_region_with (first|(go_at_call 151;refine (HBy.out rn x _ _ _ HIn.out hd0.out x0 HXB.out (by decide)).mono ?_;rintro e w2 ⟨rfl,ho2,hc2⟩;have HO2:=Lib.hid ho2;have HC2:=Lib.hid ((Chg.drew (S:=ES g) _).trans hc2);clear ho2 hc2)|(go_at_call 146;refine (keep_calls (B rn x) HO2.out (by decide) (by omega)).mono ?_;rintro e w3 ⟨rfl,ho3,hc3⟩;have HO3:=Lib.hid ho3;have HC3:=Lib.hid (HC2.out.trans hc3);clear ho3 hc3))
    all_goals
     go_wp2_with fail;go_meet;exact ⟨HO3.out,HC3.out⟩
   case rest=>
    obtain ⟨ho2,hc2⟩:=hcut;have hea:=eat_calls g _ 1 wc ho2.base rfl (by decide) (by decide) (show (0:Int)≤(n:Int) by omega) (show (n:Int)≤1000000000 by omega)
    have HO2:=Lib.hid ho2;have HC2:=Lib.hid hc2;have HEa:=Lib.hid hea;clear ho2 hc2 hea;go_wp2_with fail;refine HEa.out.mono ?_;rintro e w3 ⟨rfl,rfl⟩
    have ho3:=HO2.out.setAt ((n:Int)+1)
    obtain ⟨w3,hw3⟩:∃w3,w3=wc.setCell ⟨g,0,none⟩ (.int .i64 ((n:Int)+1)):=⟨_,rfl⟩
    have hw3':wc.setCell ⟨g,0,none⟩ (.int .i64 (({b40 with at_:=(n:Int)}:B4).at_+1))=w3:=hw3.symm;have HC3:=Lib.hid (show Chg (ES g) wr w3 by rw [hw3];exact HC2.out.trans (es_g 0 _))
    rw [←hw3] at ho3;rw [hw3']
    have hgv:=give_calls (room-(S.length:Int)) ho3 (by omega) (by omega)
    have HGv:=Lib.hid hgv;clear hw3 hw3' ho3 hgv;go_wp2_with fail;refine HGv.out.mono ?_;rintro e w4 ⟨rfl,ho4,hc4⟩
    have HO4:=Lib.hid ho4;have HC4:=Lib.hid (HC3.out.trans hc4)
    have hT:=str_size (B rn x)
    have happ:=str_append S (B rn x)
    have HAp:=Lib.hid happ;clear ho4 hc4;go_wp2_with fail;go_roundw
    case rel=>
     refine ⟨n+1,hlt,by rw [HT.out.1],by go_num,?_,HC.out.trans HC4.out⟩
     rw [HT.out.2]
     have:=HO4.out;simpa using this
    case measure=>simp [intOf];omega
  ·obtain rfl:n=l.length:=by omega
   obtain ⟨S,hS⟩:∃S,S=told B N r (l.take l.length):=⟨_,rfl⟩
   rw [←hS]
   have HS:=Lib.hid hS;clear hS;go_wp2_with fail;go_ret2;have hS:=HS.out;have hO:=HO.out;rw [List.take_length] at hS hO;exact ⟨by rw [←hS];rfl,hO,HC.out⟩
end Out
namespace Out
open Go.RowKit Win Stp Lst
theorem mk_uni8 (v:Value) (w:World):(Instr.makeInterface 111 v).run Tryz.prog w= .ok (.iface 111 v) w:=run_makeInterface w 111 v (by kernel_rfl)
theorem feed_uni8 (g:Nat) (w:World):(method 407 111 (.pointer (some ⟨g,0,none⟩)) "Feed").run Tryz.prog w= .ok (141,.pointer (some ⟨g,0,none⟩)) w:=by kernel_rfl
theorem end_uni8 (g:Nat) (w:World):(method 407 111 (.pointer (some ⟨g,0,none⟩)) "End").run Tryz.prog w= .ok (139,.pointer (some ⟨g,0,none⟩)) w:=by kernel_rfl
theorem done_uni8 (g:Nat) (w:World):(method 407 111 (.pointer (some ⟨g,0,none⟩)) "Done").run Tryz.prog w= .ok (138,.pointer (some ⟨g,0,none⟩)) w:=by kernel_rfl
theorem fail_uni8 (g:Nat) (w:World):(method 407 111 (.pointer (some ⟨g,0,none⟩)) "Fail").run Tryz.prog w= .ok (140,.pointer (some ⟨g,0,none⟩)) w:=by kernel_rfl
attribute [local go_sem] mk_uni8 feed_uni8 end_uni8 done_uni8 fail_uni8
set_option maxRecDepth 100000 in
set_option maxHeartbeats 8000000 in
theorem encode_uni8 {c:Int} {S:List Int} {w:World} {A:Option Addr} {cap:Nat} {l:List Int} (hnew:∀wx,Calls Tryz.prog 34 #[.int .i64 c] wx (NewPost 111 169 141 l S wx)) (hlen:S.length≤5*l.length)
  (hL:∀wx,Below w.heap.size w wx→Lst wx .u32 A l) (hl:l.length≤600) (hcap:l.length≤cap):
  Calls Tryz.prog 17 #[.int .i64 c,.slice A l.length cap] w (EncPost w S):=by
 have HL:=Lib.hid hL;have HNew:=Lib.hid hnew;clear hL hnew;go_enter Tryz.func17,Tryz.ntmps17;go_wp2_with fail;refine (HNew.out _).mono ?_;rintro e w1 ⟨g,hg,hgl,rfl,hb,hrd⟩
 obtain ⟨w0,hw0⟩:∃w0,w0=w.alloc (.cells #[.int .i64 0,.int .i64 0] 39):=⟨_,rfl⟩
 rw [←hw0] at hb hg;have hz0:w0.heap.size=w.heap.size+1:=by rw [hw0];simp
 have hr0:w0.heap[w.heap.size]? =some (.cells #[.int .i64 0,.int .i64 0] 39 (0,0)):=by rw [hw0];exact heap_alloc_new _ _
 have hb0:Below w.heap.size w w0:=by rw [hw0];exact (Below.refl _ _).alloc (Nat.le_refl _) _
 have hr1:=(hb.block w.heap.size (by omega)).trans hr0;have hb1:=hb0.trans (Below.mono hb (by omega))
 have HRd:=Lib.hid hrd;have HR1:=Lib.hid hr1;have HB1:=Lib.hid hb1;have HG:=Lib.hid (show w.heap.size<g∧g<w1.heap.size by omega)
 clear hrd hb hw0 hz0 hr0 hb0 hg hgl hr1 hb1;go_upto_block 0 with fail;obtain ⟨b,hbd⟩:∃b,b=w1.heap.size:=⟨_,rfl⟩
 obtain ⟨w2,hw2⟩:∃w2,w2=w1.alloc (.cells #[.pointer none,.slice none 0 0] 70):=⟨_,rfl⟩
 have hbg:g<b∧w.heap.size<g:=by have:=HG.out;omega
 have HBl:=Lib.hid (show BldAt w.heap.size b ByteArray.empty w2 by rw [hw2,hbd];exact bld_new _ _ (by omega))
 obtain ⟨⟨rs,ho2⟩,hfd⟩:=HRd.out w2 (by rw [hw2];exact (Below.refl _ _).alloc (Nat.le_refl _) _)
 have HO2:=Lib.hid ho2;have HFd0:=Lib.hid hfd;clear ho2 hfd;have HR2:=Lib.hid (show w2.heap[w.heap.size]? =some (.cells #[.int .i64 0,.int .i64 0] 39 (0,0)) by rw [hw2,Below.heap_alloc _ _ _ (by omega)];exact HR1.out)
 have HB2:=Lib.hid (show Below w.heap.size w w2 by rw [hw2];exact HB1.out.alloc HB1.out.size _)
 have HBG:=Lib.hid hbg;rw [←hw2,←hbd]
 clear hbd hw2 hbg HRd HR1 HB1 HG;go_wp2_with fail;go_loopw [1] (fun v wr=>v= .slice A l.length cap∧w2=wr) (fun _ _=>0)
 case atStart=>exact ⟨rfl,rfl⟩
 case round=>
  obtain ⟨rfl,rfl⟩:=hrel;have hfs:∀i,ES g i→w.heap.size≤i:=by intro i hi;have:i=g:=hi;have:=HBG.out;omega
  have hfd:=HFd0.out A cap (fun wr hc=>HL.out wr (Chg.below HB2.out hc hfs))
  have hsz:=str_size S;have HFd:=Lib.hid hfd;have HFs:=Lib.hid hfs;clear hfd hfs;go_wp2_with fail;refine HFd.out.mono ?_;rintro e w3 ⟨rfl,⟨rs3,ho3⟩,hc3⟩
  have hb3:BldAt w.heap.size b ByteArray.empty w3:=bld_chg HBl.out hc3 (by intro h;have:b=g:=h;have:=HBG.out;omega) (by
   intro i cs fz h hh;have:i=g:=hh;subst this;have:=h.symm.trans HO2.out.blk;simp at this)
  have hr3:=(hc3.block w.heap.size (Array.getElem?_eq_some_iff.1 HR2.out).1 (by intro h;have:w.heap.size=g:=h;have:=HBG.out;omega)).trans HR2.out;have hbw3:=Chg.below HB2.out hc3 HFs.out;have hwr:=bld_write (strOfNums S) hb3 (by decide) (by omega) hbw3.size;have HWr:=Lib.hid hwr;have HO3:=Lib.hid ho3;have HR3:=Lib.hid hr3;have HB3:=Lib.hid hbw3;clear ho3 hc3 hb3 hr3 hbw3 hwr;go_wp2_with fail;refine HWr.out.mono ?_;rintro e w4 ⟨rfl,hb4,hbe4,hot4⟩
  rw [ByteArray.empty_append] at hb4;have ho4:OutAt 169 w4 g {b40 with at_:=(l.length:Int)} [] rs3:=⟨hot4 g _ HO3.out.blk (by intro h;injection h with h;have:=HBG.out;omega) (by intro c fz h;cases h)⟩
  have hr4:=hot4 w.heap.size _ HR3.out (by intro h;injection h with h;have:=HBG.out;omega) (by intro c fz h;cases h)
  have HEnd:=Lib.hid (oend_calls ho4 rfl)
  have HBl4:=Lib.hid hb4;have HB4:=Lib.hid (HB3.out.trans hbe4)
  have HR4:=Lib.hid hr4;have HO4:=Lib.hid ho4;clear hb4 hbe4 hot4 ho4 hr4;go_upto_region 7 with fail;go_cut [1] from 22 to 41 (fun v wx=>(∃A' c',v= .slice A' 0 c')∧w4=wx)
  case first=>
   go_wp2_with fail
   all_goals
    go_meet;exact ⟨⟨_,_,rfl⟩,rfl⟩
  case rest=>
   obtain ⟨⟨A',c',rfl⟩,rfl⟩:=hcut;go_wp2_with fail;refine HEnd.out.mono ?_;rintro e w5 ⟨rfl,ho5,hc5⟩
   have hb5:BldAt w.heap.size b (strOfNums S) w5:=bld_chg HBl4.out hc5 (by intro h;have:b=g:=h;have:=HBG.out;omega) (by
    intro i cs fz h hh;have:i=g:=hh;subst this;have:=h.symm.trans HO4.out.blk;simp at this)
   have hr5:=(hc5.block w.heap.size (Array.getElem?_eq_some_iff.1 HR4.out).1 (by intro h;have:w.heap.size=g:=h;have:=HBG.out;omega)).trans HR4.out;have HB5:=Lib.hid (Chg.below HB4.out hc5 HFs.out)
   have HDn:=Lib.hid (odone_calls ho5 (by decide))
   have HBl5:=Lib.hid hb5;have HR5:=Lib.hid hr5;have HO5:=Lib.hid ho5;clear ho5 hc5 hb5 hr5;go_wp2_with fail;go_loopw [12] (fun v wr=>w5=wr) (fun _ _=>0)
   case atStart=>rfl
   case round=>
    subst hrel;have HSt:=Lib.hid (bld_string HBl5.out HB5.out.size)
    go_wp2_with fail;refine HDn.out.mono ?_;rintro e w6 ⟨rfl,rfl⟩
    go_wp2_with fail;refine HSt.out.mono ?_;rintro e w6 ⟨rfl,hb6,hot6⟩
    have ho6:OutAt 169 w6 g {b40 with at_:=(l.length:Int),fin:=true} [] rs3:=⟨hot6 g _ HO5.out.blk (by intro h;injection h with h;have:=HBG.out;omega) (by intro c fz h;cases h)⟩
    have hr6:=hot6 w.heap.size _ HR5.out (by intro h;injection h with h;have:=HBG.out;omega) (by intro c fz h;cases h)
    have HFl:=Lib.hid (fail_calls g _ w6 ho6.base)
    have HR6:=Lib.hid hr6;have HB6:=Lib.hid (HB5.out.trans hb6)
    clear hb6 hot6 ho6 hr6;go_wp2_with fail;refine HFl.out.mono ?_;rintro e w7 ⟨rfl,rfl⟩
    obtain ⟨w7,hw7⟩:∃w7,w7=w6.alloc (.cells #[.int .i64 0,.int .i64 0] 39):=⟨_,rfl⟩
    have hw7':w6.alloc (.cells #[.int .i64 b40.err,.int .i64 b40.pl] 39)=w7:=hw7.symm;have hr7:w7.heap[w.heap.size]? =some (.cells #[.int .i64 0,.int .i64 0] 39 (0,0)):=by rw [hw7,Below.heap_alloc _ _ _ (Array.getElem?_eq_some_iff.1 HR6.out).1];exact HR6.out
    have hb7:Below w.heap.size w w7:=by rw [hw7];exact HB6.out.alloc HB6.out.size _
    rw [hw7']
    have c0:w7.cell? ⟨w.heap.size,0,none⟩=some (.int .i64 0):=by rw [cell_of hr7];rfl
    have c1:w7.cell? ⟨w.heap.size,1,none⟩=some (.int .i64 0):=by rw [cell_of hr7];rfl
    have f0:=frozen_of hr7 0;have f1:=frozen_of hr7 1;have HB7:=Lib.hid hb7;clear hw7 hw7' hr7 hb7;go_wp2_with fail;have e0:((w7.setCell ⟨w.heap.size,0,none⟩ (.int .i64 b40.err)).setCell ⟨w.heap.size,1,none⟩ (.int .i64 b40.pl)).cell? ⟨w.heap.size,0,none⟩=some (.int .i64 0):=by
     rw [World.cell?_setCell_other _ _ _ _ (by simp),World.cell?_setCell_same _ _ _ c0]
     rfl
    have e1:((w7.setCell ⟨w.heap.size,0,none⟩ (.int .i64 b40.err)).setCell ⟨w.heap.size,1,none⟩ (.int .i64 b40.pl)).cell? ⟨w.heap.size,1,none⟩=some (.int .i64 0):=by
     rw [World.cell?_setCell_same (u:=.int .i64 0) _ _ _ (by rw [World.cell?_setCell_other _ _ _ _ (by simp)];exact c1)]
     rfl
    refine bodyPost_ret (v:=.tuple #[.string (strOfNums S),.agg #[.int .i64 0,.int .i64 0]]) (by simp [results,Tryz.results17,go_sem,e0,e1]) rfl ⟨rfl,(HB7.out.setCell (p:=⟨w.heap.size,0,none⟩) (Nat.le_refl _) _).setCell (p:=⟨w.heap.size,1,none⟩) (Nat.le_refl _) _⟩
end Out
namespace Out
open Go.RowKit Win Stp Lst
theorem mk_uni16 (v:Value) (w:World):(Instr.makeInterface 113 v).run Tryz.prog w= .ok (.iface 113 v) w:=run_makeInterface w 113 v (by kernel_rfl)
theorem feed_uni16 (g:Nat) (w:World):(method 407 113 (.pointer (some ⟨g,0,none⟩)) "Feed").run Tryz.prog w= .ok (150,.pointer (some ⟨g,0,none⟩)) w:=by kernel_rfl
theorem end_uni16 (g:Nat) (w:World):(method 407 113 (.pointer (some ⟨g,0,none⟩)) "End").run Tryz.prog w= .ok (139,.pointer (some ⟨g,0,none⟩)) w:=by kernel_rfl
theorem done_uni16 (g:Nat) (w:World):(method 407 113 (.pointer (some ⟨g,0,none⟩)) "Done").run Tryz.prog w= .ok (138,.pointer (some ⟨g,0,none⟩)) w:=by kernel_rfl
theorem fail_uni16 (g:Nat) (w:World):(method 407 113 (.pointer (some ⟨g,0,none⟩)) "Fail").run Tryz.prog w= .ok (140,.pointer (some ⟨g,0,none⟩)) w:=by kernel_rfl
attribute [local go_sem] mk_uni16 feed_uni16 end_uni16 done_uni16 fail_uni16
set_option maxRecDepth 100000 in
set_option maxHeartbeats 8000000 in
theorem encode_uni16 {c:Int} {S:List Int} {w:World} {A:Option Addr} {cap:Nat} {l:List Int} (hnew:∀wx,Calls Tryz.prog 34 #[.int .i64 c] wx (NewPost 113 171 150 l S wx)) (hlen:S.length≤5*l.length)
  (hL:∀wx,Below w.heap.size w wx→Lst wx .u32 A l) (hl:l.length≤600) (hcap:l.length≤cap):
  Calls Tryz.prog 17 #[.int .i64 c,.slice A l.length cap] w (EncPost w S):=by
 have HL:=Lib.hid hL;have HNew:=Lib.hid hnew;clear hL hnew;go_enter Tryz.func17,Tryz.ntmps17;go_wp2_with fail;refine (HNew.out _).mono ?_;rintro e w1 ⟨g,hg,hgl,rfl,hb,hrd⟩
 obtain ⟨w0,hw0⟩:∃w0,w0=w.alloc (.cells #[.int .i64 0,.int .i64 0] 39):=⟨_,rfl⟩
 rw [←hw0] at hb hg;have hz0:w0.heap.size=w.heap.size+1:=by rw [hw0];simp
 have hr0:w0.heap[w.heap.size]? =some (.cells #[.int .i64 0,.int .i64 0] 39 (0,0)):=by rw [hw0];exact heap_alloc_new _ _
 have hb0:Below w.heap.size w w0:=by rw [hw0];exact (Below.refl _ _).alloc (Nat.le_refl _) _
 have hr1:=(hb.block w.heap.size (by omega)).trans hr0;have hb1:=hb0.trans (Below.mono hb (by omega))
 have HRd:=Lib.hid hrd;have HR1:=Lib.hid hr1;have HB1:=Lib.hid hb1;have HG:=Lib.hid (show w.heap.size<g∧g<w1.heap.size by omega)
 clear hrd hb hw0 hz0 hr0 hb0 hg hgl hr1 hb1;go_upto_block 0 with fail;obtain ⟨b,hbd⟩:∃b,b=w1.heap.size:=⟨_,rfl⟩
 obtain ⟨w2,hw2⟩:∃w2,w2=w1.alloc (.cells #[.pointer none,.slice none 0 0] 70):=⟨_,rfl⟩
 have hbg:g<b∧w.heap.size<g:=by have:=HG.out;omega
 have HBl:=Lib.hid (show BldAt w.heap.size b ByteArray.empty w2 by rw [hw2,hbd];exact bld_new _ _ (by omega))
 obtain ⟨⟨rs,ho2⟩,hfd⟩:=HRd.out w2 (by rw [hw2];exact (Below.refl _ _).alloc (Nat.le_refl _) _)
 have HO2:=Lib.hid ho2;have HFd0:=Lib.hid hfd;clear ho2 hfd;have HR2:=Lib.hid (show w2.heap[w.heap.size]? =some (.cells #[.int .i64 0,.int .i64 0] 39 (0,0)) by rw [hw2,Below.heap_alloc _ _ _ (by omega)];exact HR1.out)
 have HB2:=Lib.hid (show Below w.heap.size w w2 by rw [hw2];exact HB1.out.alloc HB1.out.size _)
 have HBG:=Lib.hid hbg;rw [←hw2,←hbd]
 clear hbd hw2 hbg HRd HR1 HB1 HG;go_wp2_with fail;go_loopw [1] (fun v wr=>v= .slice A l.length cap∧w2=wr) (fun _ _=>0)
 case atStart=>exact ⟨rfl,rfl⟩
 case round=>
  obtain ⟨rfl,rfl⟩:=hrel;have hfs:∀i,ES g i→w.heap.size≤i:=by intro i hi;have:i=g:=hi;have:=HBG.out;omega
  have hfd:=HFd0.out A cap (fun wr hc=>HL.out wr (Chg.below HB2.out hc hfs))
  have hsz:=str_size S;have HFd:=Lib.hid hfd;have HFs:=Lib.hid hfs;clear hfd hfs;go_wp2_with fail;refine HFd.out.mono ?_;rintro e w3 ⟨rfl,⟨rs3,ho3⟩,hc3⟩
  have hb3:BldAt w.heap.size b ByteArray.empty w3:=bld_chg HBl.out hc3 (by intro h;have:b=g:=h;have:=HBG.out;omega) (by
   intro i cs fz h hh;have:i=g:=hh;subst this;have:=h.symm.trans HO2.out.blk;simp at this)
  have hr3:=(hc3.block w.heap.size (Array.getElem?_eq_some_iff.1 HR2.out).1 (by intro h;have:w.heap.size=g:=h;have:=HBG.out;omega)).trans HR2.out;have hbw3:=Chg.below HB2.out hc3 HFs.out;have hwr:=bld_write (strOfNums S) hb3 (by decide) (by omega) hbw3.size;have HWr:=Lib.hid hwr;have HO3:=Lib.hid ho3;have HR3:=Lib.hid hr3;have HB3:=Lib.hid hbw3;clear ho3 hc3 hb3 hr3 hbw3 hwr;go_wp2_with fail;refine HWr.out.mono ?_;rintro e w4 ⟨rfl,hb4,hbe4,hot4⟩
  rw [ByteArray.empty_append] at hb4;have ho4:OutAt 171 w4 g {b40 with at_:=(l.length:Int)} [] rs3:=⟨hot4 g _ HO3.out.blk (by intro h;injection h with h;have:=HBG.out;omega) (by intro c fz h;cases h)⟩
  have hr4:=hot4 w.heap.size _ HR3.out (by intro h;injection h with h;have:=HBG.out;omega) (by intro c fz h;cases h)
  have HEnd:=Lib.hid (oend_calls ho4 rfl)
  have HBl4:=Lib.hid hb4;have HB4:=Lib.hid (HB3.out.trans hbe4)
  have HR4:=Lib.hid hr4;have HO4:=Lib.hid ho4;clear hb4 hbe4 hot4 ho4 hr4;go_upto_region 7 with fail;go_cut [1] from 22 to 41 (fun v wx=>(∃A' c',v= .slice A' 0 c')∧w4=wx)
  case first=>
   go_wp2_with fail
   all_goals
    go_meet;exact ⟨⟨_,_,rfl⟩,rfl⟩
  case rest=>
   obtain ⟨⟨A',c',rfl⟩,rfl⟩:=hcut;go_wp2_with fail;refine HEnd.out.mono ?_;rintro e w5 ⟨rfl,ho5,hc5⟩
   have hb5:BldAt w.heap.size b (strOfNums S) w5:=bld_chg HBl4.out hc5 (by intro h;have:b=g:=h;have:=HBG.out;omega) (by
    intro i cs fz h hh;have:i=g:=hh;subst this;have:=h.symm.trans HO4.out.blk;simp at this)
   have hr5:=(hc5.block w.heap.size (Array.getElem?_eq_some_iff.1 HR4.out).1 (by intro h;have:w.heap.size=g:=h;have:=HBG.out;omega)).trans HR4.out;have HB5:=Lib.hid (Chg.below HB4.out hc5 HFs.out)
   have HDn:=Lib.hid (odone_calls ho5 (by decide))
   have HBl5:=Lib.hid hb5;have HR5:=Lib.hid hr5;have HO5:=Lib.hid ho5;clear ho5 hc5 hb5 hr5;go_wp2_with fail;go_loopw [12] (fun v wr=>w5=wr) (fun _ _=>0)
   case atStart=>rfl
   case round=>
    subst hrel;have HSt:=Lib.hid (bld_string HBl5.out HB5.out.size)
    go_wp2_with fail;refine HDn.out.mono ?_;rintro e w6 ⟨rfl,rfl⟩
    go_wp2_with fail;refine HSt.out.mono ?_;rintro e w6 ⟨rfl,hb6,hot6⟩
    have ho6:OutAt 171 w6 g {b40 with at_:=(l.length:Int),fin:=true} [] rs3:=⟨hot6 g _ HO5.out.blk (by intro h;injection h with h;have:=HBG.out;omega) (by intro c fz h;cases h)⟩
    have hr6:=hot6 w.heap.size _ HR5.out (by intro h;injection h with h;have:=HBG.out;omega) (by intro c fz h;cases h)
    have HFl:=Lib.hid (fail_calls g _ w6 ho6.base)
    have HR6:=Lib.hid hr6;have HB6:=Lib.hid (HB5.out.trans hb6)
    clear hb6 hot6 ho6 hr6;go_wp2_with fail;refine HFl.out.mono ?_;rintro e w7 ⟨rfl,rfl⟩
    obtain ⟨w7,hw7⟩:∃w7,w7=w6.alloc (.cells #[.int .i64 0,.int .i64 0] 39):=⟨_,rfl⟩
    have hw7':w6.alloc (.cells #[.int .i64 b40.err,.int .i64 b40.pl] 39)=w7:=hw7.symm;have hr7:w7.heap[w.heap.size]? =some (.cells #[.int .i64 0,.int .i64 0] 39 (0,0)):=by rw [hw7,Below.heap_alloc _ _ _ (Array.getElem?_eq_some_iff.1 HR6.out).1];exact HR6.out
    have hb7:Below w.heap.size w w7:=by rw [hw7];exact HB6.out.alloc HB6.out.size _
    rw [hw7']
    have c0:w7.cell? ⟨w.heap.size,0,none⟩=some (.int .i64 0):=by rw [cell_of hr7];rfl
    have c1:w7.cell? ⟨w.heap.size,1,none⟩=some (.int .i64 0):=by rw [cell_of hr7];rfl
    have f0:=frozen_of hr7 0;have f1:=frozen_of hr7 1;have HB7:=Lib.hid hb7;clear hw7 hw7' hr7 hb7;go_wp2_with fail;have e0:((w7.setCell ⟨w.heap.size,0,none⟩ (.int .i64 b40.err)).setCell ⟨w.heap.size,1,none⟩ (.int .i64 b40.pl)).cell? ⟨w.heap.size,0,none⟩=some (.int .i64 0):=by
     rw [World.cell?_setCell_other _ _ _ _ (by simp),World.cell?_setCell_same _ _ _ c0]
     rfl
    have e1:((w7.setCell ⟨w.heap.size,0,none⟩ (.int .i64 b40.err)).setCell ⟨w.heap.size,1,none⟩ (.int .i64 b40.pl)).cell? ⟨w.heap.size,1,none⟩=some (.int .i64 0):=by
     rw [World.cell?_setCell_same (u:=.int .i64 0) _ _ _ (by rw [World.cell?_setCell_other _ _ _ _ (by simp)];exact c1)]
     rfl
    refine bodyPost_ret (v:=.tuple #[.string (strOfNums S),.agg #[.int .i64 0,.int .i64 0]]) (by simp [results,Tryz.results17,go_sem,e0,e1]) rfl ⟨rfl,(HB7.out.setCell (p:=⟨w.heap.size,0,none⟩) (Nat.le_refl _) _).setCell (p:=⟨w.heap.size,1,none⟩) (Nat.le_refl _) _⟩
end Out
namespace Out
open Go.RowKit Win Stp Lst
theorem mk_uni32 (v:Value) (w:World):(Instr.makeInterface 115 v).run Tryz.prog w= .ok (.iface 115 v) w:=run_makeInterface w 115 v (by kernel_rfl)
theorem feed_uni32 (g:Nat) (w:World):(method 407 115 (.pointer (some ⟨g,0,none⟩)) "Feed").run Tryz.prog w= .ok (153,.pointer (some ⟨g,0,none⟩)) w:=by kernel_rfl
theorem end_uni32 (g:Nat) (w:World):(method 407 115 (.pointer (some ⟨g,0,none⟩)) "End").run Tryz.prog w= .ok (139,.pointer (some ⟨g,0,none⟩)) w:=by kernel_rfl
theorem done_uni32 (g:Nat) (w:World):(method 407 115 (.pointer (some ⟨g,0,none⟩)) "Done").run Tryz.prog w= .ok (138,.pointer (some ⟨g,0,none⟩)) w:=by kernel_rfl
theorem fail_uni32 (g:Nat) (w:World):(method 407 115 (.pointer (some ⟨g,0,none⟩)) "Fail").run Tryz.prog w= .ok (140,.pointer (some ⟨g,0,none⟩)) w:=by kernel_rfl
attribute [local go_sem] mk_uni32 feed_uni32 end_uni32 done_uni32 fail_uni32
set_option maxRecDepth 100000 in
set_option maxHeartbeats 8000000 in
theorem encode_uni32 {c:Int} {S:List Int} {w:World} {A:Option Addr} {cap:Nat} {l:List Int} (hnew:∀wx,Calls Tryz.prog 34 #[.int .i64 c] wx (NewPost 115 173 153 l S wx)) (hlen:S.length≤5*l.length)
  (hL:∀wx,Below w.heap.size w wx→Lst wx .u32 A l) (hl:l.length≤600) (hcap:l.length≤cap):
  Calls Tryz.prog 17 #[.int .i64 c,.slice A l.length cap] w (EncPost w S):=by
 have HL:=Lib.hid hL;have HNew:=Lib.hid hnew;clear hL hnew;go_enter Tryz.func17,Tryz.ntmps17;go_wp2_with fail;refine (HNew.out _).mono ?_;rintro e w1 ⟨g,hg,hgl,rfl,hb,hrd⟩
 obtain ⟨w0,hw0⟩:∃w0,w0=w.alloc (.cells #[.int .i64 0,.int .i64 0] 39):=⟨_,rfl⟩
 rw [←hw0] at hb hg;have hz0:w0.heap.size=w.heap.size+1:=by rw [hw0];simp
 have hr0:w0.heap[w.heap.size]? =some (.cells #[.int .i64 0,.int .i64 0] 39 (0,0)):=by rw [hw0];exact heap_alloc_new _ _
 have hb0:Below w.heap.size w w0:=by rw [hw0];exact (Below.refl _ _).alloc (Nat.le_refl _) _
 have hr1:=(hb.block w.heap.size (by omega)).trans hr0;have hb1:=hb0.trans (Below.mono hb (by omega))
 have HRd:=Lib.hid hrd;have HR1:=Lib.hid hr1;have HB1:=Lib.hid hb1;have HG:=Lib.hid (show w.heap.size<g∧g<w1.heap.size by omega)
 clear hrd hb hw0 hz0 hr0 hb0 hg hgl hr1 hb1;go_upto_block 0 with fail;obtain ⟨b,hbd⟩:∃b,b=w1.heap.size:=⟨_,rfl⟩
 obtain ⟨w2,hw2⟩:∃w2,w2=w1.alloc (.cells #[.pointer none,.slice none 0 0] 70):=⟨_,rfl⟩
 have hbg:g<b∧w.heap.size<g:=by have:=HG.out;omega
 have HBl:=Lib.hid (show BldAt w.heap.size b ByteArray.empty w2 by rw [hw2,hbd];exact bld_new _ _ (by omega))
 obtain ⟨⟨rs,ho2⟩,hfd⟩:=HRd.out w2 (by rw [hw2];exact (Below.refl _ _).alloc (Nat.le_refl _) _)
 have HO2:=Lib.hid ho2;have HFd0:=Lib.hid hfd;clear ho2 hfd;have HR2:=Lib.hid (show w2.heap[w.heap.size]? =some (.cells #[.int .i64 0,.int .i64 0] 39 (0,0)) by rw [hw2,Below.heap_alloc _ _ _ (by omega)];exact HR1.out)
 have HB2:=Lib.hid (show Below w.heap.size w w2 by rw [hw2];exact HB1.out.alloc HB1.out.size _)
 have HBG:=Lib.hid hbg;rw [←hw2,←hbd]
 clear hbd hw2 hbg HRd HR1 HB1 HG;go_wp2_with fail;go_loopw [1] (fun v wr=>v= .slice A l.length cap∧w2=wr) (fun _ _=>0)
 case atStart=>exact ⟨rfl,rfl⟩
 case round=>
  obtain ⟨rfl,rfl⟩:=hrel;have hfs:∀i,ES g i→w.heap.size≤i:=by intro i hi;have:i=g:=hi;have:=HBG.out;omega
  have hfd:=HFd0.out A cap (fun wr hc=>HL.out wr (Chg.below HB2.out hc hfs))
  have hsz:=str_size S;have HFd:=Lib.hid hfd;have HFs:=Lib.hid hfs;clear hfd hfs;go_wp2_with fail;refine HFd.out.mono ?_;rintro e w3 ⟨rfl,⟨rs3,ho3⟩,hc3⟩
  have hb3:BldAt w.heap.size b ByteArray.empty w3:=bld_chg HBl.out hc3 (by intro h;have:b=g:=h;have:=HBG.out;omega) (by
   intro i cs fz h hh;have:i=g:=hh;subst this;have:=h.symm.trans HO2.out.blk;simp at this)
  have hr3:=(hc3.block w.heap.size (Array.getElem?_eq_some_iff.1 HR2.out).1 (by intro h;have:w.heap.size=g:=h;have:=HBG.out;omega)).trans HR2.out;have hbw3:=Chg.below HB2.out hc3 HFs.out;have hwr:=bld_write (strOfNums S) hb3 (by decide) (by omega) hbw3.size;have HWr:=Lib.hid hwr;have HO3:=Lib.hid ho3;have HR3:=Lib.hid hr3;have HB3:=Lib.hid hbw3;clear ho3 hc3 hb3 hr3 hbw3 hwr;go_wp2_with fail;refine HWr.out.mono ?_;rintro e w4 ⟨rfl,hb4,hbe4,hot4⟩
  rw [ByteArray.empty_append] at hb4;have ho4:OutAt 173 w4 g {b40 with at_:=(l.length:Int)} [] rs3:=⟨hot4 g _ HO3.out.blk (by intro h;injection h with h;have:=HBG.out;omega) (by intro c fz h;cases h)⟩
  have hr4:=hot4 w.heap.size _ HR3.out (by intro h;injection h with h;have:=HBG.out;omega) (by intro c fz h;cases h)
  have HEnd:=Lib.hid (oend_calls ho4 rfl)
  have HBl4:=Lib.hid hb4;have HB4:=Lib.hid (HB3.out.trans hbe4)
  have HR4:=Lib.hid hr4;have HO4:=Lib.hid ho4;clear hb4 hbe4 hot4 ho4 hr4;go_upto_region 7 with fail;go_cut [1] from 22 to 41 (fun v wx=>(∃A' c',v= .slice A' 0 c')∧w4=wx)
  case first=>
   go_wp2_with fail
   all_goals
    go_meet;exact ⟨⟨_,_,rfl⟩,rfl⟩
  case rest=>
   obtain ⟨⟨A',c',rfl⟩,rfl⟩:=hcut;go_wp2_with fail;refine HEnd.out.mono ?_;rintro e w5 ⟨rfl,ho5,hc5⟩
   have hb5:BldAt w.heap.size b (strOfNums S) w5:=bld_chg HBl4.out hc5 (by intro h;have:b=g:=h;have:=HBG.out;omega) (by
    intro i cs fz h hh;have:i=g:=hh;subst this;have:=h.symm.trans HO4.out.blk;simp at this)
   have hr5:=(hc5.block w.heap.size (Array.getElem?_eq_some_iff.1 HR4.out).1 (by intro h;have:w.heap.size=g:=h;have:=HBG.out;omega)).trans HR4.out;have HB5:=Lib.hid (Chg.below HB4.out hc5 HFs.out)
   have HDn:=Lib.hid (odone_calls ho5 (by decide))
   have HBl5:=Lib.hid hb5;have HR5:=Lib.hid hr5;have HO5:=Lib.hid ho5;clear ho5 hc5 hb5 hr5;go_wp2_with fail;go_loopw [12] (fun v wr=>w5=wr) (fun _ _=>0)
   case atStart=>rfl
   case round=>
    subst hrel;have HSt:=Lib.hid (bld_string HBl5.out HB5.out.size)
    go_wp2_with fail;refine HDn.out.mono ?_;rintro e w6 ⟨rfl,rfl⟩
    go_wp2_with fail;refine HSt.out.mono ?_;rintro e w6 ⟨rfl,hb6,hot6⟩
    have ho6:OutAt 173 w6 g {b40 with at_:=(l.length:Int),fin:=true} [] rs3:=⟨hot6 g _ HO5.out.blk (by intro h;injection h with h;have:=HBG.out;omega) (by intro c fz h;cases h)⟩
    have hr6:=hot6 w.heap.size _ HR5.out (by intro h;injection h with h;have:=HBG.out;omega) (by intro c fz h;cases h)
    have HFl:=Lib.hid (fail_calls g _ w6 ho6.base)
    have HR6:=Lib.hid hr6;have HB6:=Lib.hid (HB5.out.trans hb6)
    clear hb6 hot6 ho6 hr6;go_wp2_with fail;refine HFl.out.mono ?_;rintro e w7 ⟨rfl,rfl⟩
    obtain ⟨w7,hw7⟩:∃w7,w7=w6.alloc (.cells #[.int .i64 0,.int .i64 0] 39):=⟨_,rfl⟩
    have hw7':w6.alloc (.cells #[.int .i64 b40.err,.int .i64 b40.pl] 39)=w7:=hw7.symm;have hr7:w7.heap[w.heap.size]? =some (.cells #[.int .i64 0,.int .i64 0] 39 (0,0)):=by rw [hw7,Below.heap_alloc _ _ _ (Array.getElem?_eq_some_iff.1 HR6.out).1];exact HR6.out
    have hb7:Below w.heap.size w w7:=by rw [hw7];exact HB6.out.alloc HB6.out.size _
    rw [hw7']
    have c0:w7.cell? ⟨w.heap.size,0,none⟩=some (.int .i64 0):=by rw [cell_of hr7];rfl
    have c1:w7.cell? ⟨w.heap.size,1,none⟩=some (.int .i64 0):=by rw [cell_of hr7];rfl
    have f0:=frozen_of hr7 0;have f1:=frozen_of hr7 1;have HB7:=Lib.hid hb7;clear hw7 hw7' hr7 hb7;go_wp2_with fail;have e0:((w7.setCell ⟨w.heap.size,0,none⟩ (.int .i64 b40.err)).setCell ⟨w.heap.size,1,none⟩ (.int .i64 b40.pl)).cell? ⟨w.heap.size,0,none⟩=some (.int .i64 0):=by
     rw [World.cell?_setCell_other _ _ _ _ (by simp),World.cell?_setCell_same _ _ _ c0]
     rfl
    have e1:((w7.setCell ⟨w.heap.size,0,none⟩ (.int .i64 b40.err)).setCell ⟨w.heap.size,1,none⟩ (.int .i64 b40.pl)).cell? ⟨w.heap.size,1,none⟩=some (.int .i64 0):=by
     rw [World.cell?_setCell_same (u:=.int .i64 0) _ _ _ (by rw [World.cell?_setCell_other _ _ _ _ (by simp)];exact c1)]
     rfl
    refine bodyPost_ret (v:=.tuple #[.string (strOfNums S),.agg #[.int .i64 0,.int .i64 0]]) (by simp [results,Tryz.results17,go_sem,e0,e1]) rfl ⟨rfl,(HB7.out.setCell (p:=⟨w.heap.size,0,none⟩) (Nat.le_refl _) _).setCell (p:=⟨w.heap.size,1,none⟩) (Nat.le_refl _) _⟩
end Out
namespace Out
open Go.RowKit Win Stp Lst
theorem mk_ebcdic (v:Value) (w:World):(Instr.makeInterface 117 v).run Tryz.prog w= .ok (.iface 117 v) w:=run_makeInterface w 117 v (by kernel_rfl)
theorem feed_ebcdic (g:Nat) (w:World):(method 407 117 (.pointer (some ⟨g,0,none⟩)) "Feed").run Tryz.prog w= .ok (155,.pointer (some ⟨g,0,none⟩)) w:=by kernel_rfl
theorem end_ebcdic (g:Nat) (w:World):(method 407 117 (.pointer (some ⟨g,0,none⟩)) "End").run Tryz.prog w= .ok (139,.pointer (some ⟨g,0,none⟩)) w:=by kernel_rfl
theorem done_ebcdic (g:Nat) (w:World):(method 407 117 (.pointer (some ⟨g,0,none⟩)) "Done").run Tryz.prog w= .ok (138,.pointer (some ⟨g,0,none⟩)) w:=by kernel_rfl
theorem fail_ebcdic (g:Nat) (w:World):(method 407 117 (.pointer (some ⟨g,0,none⟩)) "Fail").run Tryz.prog w= .ok (140,.pointer (some ⟨g,0,none⟩)) w:=by kernel_rfl
attribute [local go_sem] mk_ebcdic feed_ebcdic end_ebcdic done_ebcdic fail_ebcdic
set_option maxRecDepth 100000 in
set_option maxHeartbeats 8000000 in
theorem encode_ebcdic {c:Int} {S:List Int} {w:World} {A:Option Addr} {cap:Nat} {l:List Int} (hnew:∀wx,Calls Tryz.prog 34 #[.int .i64 c] wx (NewPost 117 178 155 l S wx)) (hlen:S.length≤5*l.length)
  (hL:∀wx,Below w.heap.size w wx→Lst wx .u32 A l) (hl:l.length≤600) (hcap:l.length≤cap):
  Calls Tryz.prog 17 #[.int .i64 c,.slice A l.length cap] w (EncPost w S):=by
 have HL:=Lib.hid hL;have HNew:=Lib.hid hnew;clear hL hnew;go_enter Tryz.func17,Tryz.ntmps17;go_wp2_with fail;refine (HNew.out _).mono ?_;rintro e w1 ⟨g,hg,hgl,rfl,hb,hrd⟩
 obtain ⟨w0,hw0⟩:∃w0,w0=w.alloc (.cells #[.int .i64 0,.int .i64 0] 39):=⟨_,rfl⟩
 rw [←hw0] at hb hg;have hz0:w0.heap.size=w.heap.size+1:=by rw [hw0];simp
 have hr0:w0.heap[w.heap.size]? =some (.cells #[.int .i64 0,.int .i64 0] 39 (0,0)):=by rw [hw0];exact heap_alloc_new _ _
 have hb0:Below w.heap.size w w0:=by rw [hw0];exact (Below.refl _ _).alloc (Nat.le_refl _) _
 have hr1:=(hb.block w.heap.size (by omega)).trans hr0;have hb1:=hb0.trans (Below.mono hb (by omega))
 have HRd:=Lib.hid hrd;have HR1:=Lib.hid hr1;have HB1:=Lib.hid hb1;have HG:=Lib.hid (show w.heap.size<g∧g<w1.heap.size by omega)
 clear hrd hb hw0 hz0 hr0 hb0 hg hgl hr1 hb1;go_upto_block 0 with fail;obtain ⟨b,hbd⟩:∃b,b=w1.heap.size:=⟨_,rfl⟩
 obtain ⟨w2,hw2⟩:∃w2,w2=w1.alloc (.cells #[.pointer none,.slice none 0 0] 70):=⟨_,rfl⟩
 have hbg:g<b∧w.heap.size<g:=by have:=HG.out;omega
 have HBl:=Lib.hid (show BldAt w.heap.size b ByteArray.empty w2 by rw [hw2,hbd];exact bld_new _ _ (by omega))
 obtain ⟨⟨rs,ho2⟩,hfd⟩:=HRd.out w2 (by rw [hw2];exact (Below.refl _ _).alloc (Nat.le_refl _) _)
 have HO2:=Lib.hid ho2;have HFd0:=Lib.hid hfd;clear ho2 hfd;have HR2:=Lib.hid (show w2.heap[w.heap.size]? =some (.cells #[.int .i64 0,.int .i64 0] 39 (0,0)) by rw [hw2,Below.heap_alloc _ _ _ (by omega)];exact HR1.out)
 have HB2:=Lib.hid (show Below w.heap.size w w2 by rw [hw2];exact HB1.out.alloc HB1.out.size _)
 have HBG:=Lib.hid hbg;rw [←hw2,←hbd]
 clear hbd hw2 hbg HRd HR1 HB1 HG;go_wp2_with fail;go_loopw [1] (fun v wr=>v= .slice A l.length cap∧w2=wr) (fun _ _=>0)
 case atStart=>exact ⟨rfl,rfl⟩
 case round=>
  obtain ⟨rfl,rfl⟩:=hrel;have hfs:∀i,ES g i→w.heap.size≤i:=by intro i hi;have:i=g:=hi;have:=HBG.out;omega
  have hfd:=HFd0.out A cap (fun wr hc=>HL.out wr (Chg.below HB2.out hc hfs))
  have hsz:=str_size S;have HFd:=Lib.hid hfd;have HFs:=Lib.hid hfs;clear hfd hfs;go_wp2_with fail;refine HFd.out.mono ?_;rintro e w3 ⟨rfl,⟨rs3,ho3⟩,hc3⟩
  have hb3:BldAt w.heap.size b ByteArray.empty w3:=bld_chg HBl.out hc3 (by intro h;have:b=g:=h;have:=HBG.out;omega) (by
   intro i cs fz h hh;have:i=g:=hh;subst this;have:=h.symm.trans HO2.out.blk;simp at this)
  have hr3:=(hc3.block w.heap.size (Array.getElem?_eq_some_iff.1 HR2.out).1 (by intro h;have:w.heap.size=g:=h;have:=HBG.out;omega)).trans HR2.out;have hbw3:=Chg.below HB2.out hc3 HFs.out;have hwr:=bld_write (strOfNums S) hb3 (by decide) (by omega) hbw3.size;have HWr:=Lib.hid hwr;have HO3:=Lib.hid ho3;have HR3:=Lib.hid hr3;have HB3:=Lib.hid hbw3;clear ho3 hc3 hb3 hr3 hbw3 hwr;go_wp2_with fail;refine HWr.out.mono ?_;rintro e w4 ⟨rfl,hb4,hbe4,hot4⟩
  rw [ByteArray.empty_append] at hb4;have ho4:OutAt 178 w4 g {b40 with at_:=(l.length:Int)} [] rs3:=⟨hot4 g _ HO3.out.blk (by intro h;injection h with h;have:=HBG.out;omega) (by intro c fz h;cases h)⟩
  have hr4:=hot4 w.heap.size _ HR3.out (by intro h;injection h with h;have:=HBG.out;omega) (by intro c fz h;cases h)
  have HEnd:=Lib.hid (oend_calls ho4 rfl)
  have HBl4:=Lib.hid hb4;have HB4:=Lib.hid (HB3.out.trans hbe4)
  have HR4:=Lib.hid hr4;have HO4:=Lib.hid ho4;clear hb4 hbe4 hot4 ho4 hr4;go_upto_region 7 with fail;go_cut [1] from 22 to 41 (fun v wx=>(∃A' c',v= .slice A' 0 c')∧w4=wx)
  case first=>
   go_wp2_with fail
   all_goals
    go_meet;exact ⟨⟨_,_,rfl⟩,rfl⟩
  case rest=>
   obtain ⟨⟨A',c',rfl⟩,rfl⟩:=hcut;go_wp2_with fail;refine HEnd.out.mono ?_;rintro e w5 ⟨rfl,ho5,hc5⟩
   have hb5:BldAt w.heap.size b (strOfNums S) w5:=bld_chg HBl4.out hc5 (by intro h;have:b=g:=h;have:=HBG.out;omega) (by
    intro i cs fz h hh;have:i=g:=hh;subst this;have:=h.symm.trans HO4.out.blk;simp at this)
   have hr5:=(hc5.block w.heap.size (Array.getElem?_eq_some_iff.1 HR4.out).1 (by intro h;have:w.heap.size=g:=h;have:=HBG.out;omega)).trans HR4.out;have HB5:=Lib.hid (Chg.below HB4.out hc5 HFs.out)
   have HDn:=Lib.hid (odone_calls ho5 (by decide))
   have HBl5:=Lib.hid hb5;have HR5:=Lib.hid hr5;have HO5:=Lib.hid ho5;clear ho5 hc5 hb5 hr5;go_wp2_with fail;go_loopw [12] (fun v wr=>w5=wr) (fun _ _=>0)
   case atStart=>rfl
   case round=>
    subst hrel;have HSt:=Lib.hid (bld_string HBl5.out HB5.out.size)
    go_wp2_with fail;refine HDn.out.mono ?_;rintro e w6 ⟨rfl,rfl⟩
    go_wp2_with fail;refine HSt.out.mono ?_;rintro e w6 ⟨rfl,hb6,hot6⟩
    have ho6:OutAt 178 w6 g {b40 with at_:=(l.length:Int),fin:=true} [] rs3:=⟨hot6 g _ HO5.out.blk (by intro h;injection h with h;have:=HBG.out;omega) (by intro c fz h;cases h)⟩
    have hr6:=hot6 w.heap.size _ HR5.out (by intro h;injection h with h;have:=HBG.out;omega) (by intro c fz h;cases h)
    have HFl:=Lib.hid (fail_calls g _ w6 ho6.base)
    have HR6:=Lib.hid hr6;have HB6:=Lib.hid (HB5.out.trans hb6)
    clear hb6 hot6 ho6 hr6;go_wp2_with fail;refine HFl.out.mono ?_;rintro e w7 ⟨rfl,rfl⟩
    obtain ⟨w7,hw7⟩:∃w7,w7=w6.alloc (.cells #[.int .i64 0,.int .i64 0] 39):=⟨_,rfl⟩
    have hw7':w6.alloc (.cells #[.int .i64 b40.err,.int .i64 b40.pl] 39)=w7:=hw7.symm;have hr7:w7.heap[w.heap.size]? =some (.cells #[.int .i64 0,.int .i64 0] 39 (0,0)):=by rw [hw7,Below.heap_alloc _ _ _ (Array.getElem?_eq_some_iff.1 HR6.out).1];exact HR6.out
    have hb7:Below w.heap.size w w7:=by rw [hw7];exact HB6.out.alloc HB6.out.size _
    rw [hw7']
    have c0:w7.cell? ⟨w.heap.size,0,none⟩=some (.int .i64 0):=by rw [cell_of hr7];rfl
    have c1:w7.cell? ⟨w.heap.size,1,none⟩=some (.int .i64 0):=by rw [cell_of hr7];rfl
    have f0:=frozen_of hr7 0;have f1:=frozen_of hr7 1;have HB7:=Lib.hid hb7;clear hw7 hw7' hr7 hb7;go_wp2_with fail;have e0:((w7.setCell ⟨w.heap.size,0,none⟩ (.int .i64 b40.err)).setCell ⟨w.heap.size,1,none⟩ (.int .i64 b40.pl)).cell? ⟨w.heap.size,0,none⟩=some (.int .i64 0):=by
     rw [World.cell?_setCell_other _ _ _ _ (by simp),World.cell?_setCell_same _ _ _ c0]
     rfl
    have e1:((w7.setCell ⟨w.heap.size,0,none⟩ (.int .i64 b40.err)).setCell ⟨w.heap.size,1,none⟩ (.int .i64 b40.pl)).cell? ⟨w.heap.size,1,none⟩=some (.int .i64 0):=by
     rw [World.cell?_setCell_same (u:=.int .i64 0) _ _ _ (by rw [World.cell?_setCell_other _ _ _ _ (by simp)];exact c1)]
     rfl
    refine bodyPost_ret (v:=.tuple #[.string (strOfNums S),.agg #[.int .i64 0,.int .i64 0]]) (by simp [results,Tryz.results17,go_sem,e0,e1]) rfl ⟨rfl,(HB7.out.setCell (p:=⟨w.heap.size,0,none⟩) (Nat.le_refl _) _).setCell (p:=⟨w.heap.size,1,none⟩) (Nat.le_refl _) _⟩
end Out
namespace Out
open Go.RowKit Win Stp Lst
def u8B:Unit→Int→List Int:=fun _ c=>uni8B c
def u16B (big:Bool):Unit→Int→List Int:=fun _ c=>uni16B big c
def u32B (big:Bool):Unit→Int→List Int:=fun _ c=>uni32B big c
def bgR (big:Bool):Unit→List Value:=fun _=>[.bool big]
def noR:Unit→List Value:=fun _=>[]
theorem uni8B_len (c:Int):(uni8B c).length≤5:=by
 unfold uni8B
 repeat' split
 all_goals simp
theorem uni16B_len (big:Bool) (c:Int):(uni16B big c).length≤5:=by
 unfold uni16B
 split
 ·rw [unitB_len];decide
 ·rw [List.length_append,unitB_len,unitB_len];decide
theorem uni32B_len (big:Bool) (c:Int):(uni32B big c).length≤5:=by unfold uni32B;split <;>simp
theorem ebB_len (r:Unit) (c:Int):(ebB r c).length≤5:=by
 unfold ebB;rw [List.length_map]
 exact mod8B_len c
theorem uni8_new (w:World):Calls Tryz.prog 62 #[] w fun e w'=>e= .returned (.pointer (some ⟨w.heap.size,0,none⟩))∧OutAt 169 w' w.heap.size b40 [] []∧Below w.heap.size w w'∧w'.heap.size=w.heap.size+1:=by
 go_enter Tryz.func62,Tryz.ntmps62;go_wp2;go_ret;exact ⟨rfl,⟨heap_alloc_new _ _⟩,(Below.refl _ _).alloc (Nat.le_refl _) _,by simp⟩
theorem uni16_new (big:Bool) (w:World):Calls Tryz.prog 63 #[.bool big] w fun e w'=>e= .returned (.pointer (some ⟨w.heap.size,0,none⟩))∧OutAt 171 w' w.heap.size b40 [] (bgR big ())∧Below w.heap.size w w'∧w'.heap.size=w.heap.size+1:=by
 go_enter Tryz.func63,Tryz.ntmps63;go_wp2;go_ret;exact ⟨rfl,⟨heap_alloc_new _ _⟩,(Below.refl _ _).alloc (Nat.le_refl _) _,by simp⟩
theorem uni32_new (big:Bool) (w:World):Calls Tryz.prog 64 #[.bool big] w fun e w'=>e= .returned (.pointer (some ⟨w.heap.size,0,none⟩))∧OutAt 173 w' w.heap.size b40 [] (bgR big ())∧Below w.heap.size w w'∧w'.heap.size=w.heap.size+1:=by
 go_enter Tryz.func64,Tryz.ntmps64;go_wp2;go_ret;exact ⟨rfl,⟨heap_alloc_new _ _⟩,(Below.refl _ _).alloc (Nat.le_refl _) _,by simp⟩
theorem rdy_uni8 {w:World} {g:Nat} {l:List Int} (h:OutAt 169 w g b40 [] (noR ())) (hl:l.length≤600) (hr:∀x∈l,0≤x∧isB x=true):Rdy 169 141 l (told u8B unN () l) g w:=
 ⟨⟨_,h⟩,fun A cap hA=>(uni8_feed (cap:=cap) (l:=l) (rest:=noR) (B:=u8B) (N:=unN) (I:=fun _=>True) (r:=()) 4096 h (fun r c w' b l _ h h0 hb hl=>(uni8_bytes g c w' h0 hb).mono (fun e w2 hp=>⟨hp.1,h.below hp.2,Chg.of_below hp.2⟩)) (fun _ c=>uni8B_len c) trivial (fun _ _ _ _ _=>trivial) hl hA hr (by decide) (by decide)).mono (fun e wr hp=>FedPost.of hp)⟩
theorem rdy_uni16 (big:Bool) {w:World} {g:Nat} {l:List Int} (h:OutAt 171 w g b40 [] ((bgR big) ())) (hl:l.length≤600) (hr:∀x∈l,0≤x∧isB x=true):Rdy 171 150 l (told (u16B big) unN () l) g w:=
 ⟨⟨_,h⟩,fun A cap hA=>(uni16_feed (cap:=cap) (l:=l) (rest:=(bgR big)) (B:=(u16B big)) (N:=unN) (I:=fun _=>True) (r:=()) 4096 h (fun r c w' b l _ h h0 hb hl=>(uni16_bytes g big c w' h.c5 h0 hb).mono (fun e w2 hp=>⟨hp.1,h.below hp.2,Chg.of_below hp.2⟩)) (fun _ c=>uni16B_len big c) trivial (fun _ _ _ _ _=>trivial) hl hA hr (by decide) (by decide)).mono (fun e wr hp=>FedPost.of hp)⟩
theorem rdy_uni32 (big:Bool) {w:World} {g:Nat} {l:List Int} (h:OutAt 173 w g b40 [] ((bgR big) ())) (hl:l.length≤600) (hr:∀x∈l,0≤x∧isB x=true):Rdy 173 153 l (told (u32B big) unN () l) g w:=
 ⟨⟨_,h⟩,fun A cap hA=>(uni32_feed (cap:=cap) (l:=l) (rest:=(bgR big)) (B:=(u32B big)) (N:=unN) (I:=fun _=>True) (r:=()) 4096 h (fun r c w' b l _ h h0 hb hl=>(uni32_bytes g big c w' h.c5 h0 hb).mono (fun e w2 hp=>⟨hp.1,h.below hp.2,Chg.of_below hp.2⟩)) (fun _ c=>uni32B_len big c) trivial (fun _ _ _ _ _=>trivial) hl hA hr (by decide) (by decide)).mono (fun e wr hp=>FedPost.of hp)⟩
theorem rdy_ebcdic {w:World} {g gt:Nat} {l:List Int} (h:OutAt 178 w g b40 [] (ptR gt ())) (ht:TabAt w gt) (hgt:gt≠g) (hl:l.length≤600) (hr:∀x∈l,0≤x∧isB x=true):Rdy 178 155 l (told ebB unN () l) g w:=
 ⟨⟨_,h⟩,fun A cap hA=>(ebcdic_feed (cap:=cap) (l:=l) 4096 h ht hgt hl hA hr (by decide) (by decide)).mono (fun e wr hp=>FedPost.of hp)⟩
theorem mk_n1 (v:Value) (w:World):(Instr.makeInterface 111 v).run Tryz.prog w= .ok (.iface 111 v) w:=run_makeInterface w 111 v (by kernel_rfl)
section
attribute [local go_sem] mk_n1
theorem cnew_1 {l:List Int} (hl:l.length≤600) (hr:∀x∈l,0≤x∧isB x=true) (w:World):Calls Tryz.prog 34 #[.int .i64 1] w (NewPost 111 169 141 l (told u8B unN () l) w):=by
 go_enter Tryz.func34,Tryz.ntmps34;go_wp2_with fail;refine (uni8_new _).mono ?_;rintro e w1 ⟨rfl,h1,h2,h3⟩
 go_wp2_with fail;go_ret2;exact ⟨_,Nat.le_refl _,h1.lt,rfl,h2,fun wy hy=>rdy_uni8 (h1.below hy) hl hr⟩
end
theorem mk_n2 (v:Value) (w:World):(Instr.makeInterface 113 v).run Tryz.prog w= .ok (.iface 113 v) w:=run_makeInterface w 113 v (by kernel_rfl)
section
attribute [local go_sem] mk_n2
theorem cnew_2 {l:List Int} (hl:l.length≤600) (hr:∀x∈l,0≤x∧isB x=true) (w:World):Calls Tryz.prog 34 #[.int .i64 2] w (NewPost 113 171 150 l (told (u16B true) unN () l) w):=by
 go_enter Tryz.func34,Tryz.ntmps34;go_wp2_with fail;refine (uni16_new true _).mono ?_;rintro e w1 ⟨rfl,h1,h2,h3⟩
 go_wp2_with fail;go_ret2;exact ⟨_,Nat.le_refl _,h1.lt,rfl,h2,fun wy hy=>rdy_uni16 true (h1.below hy) hl hr⟩
end
theorem mk_n3 (v:Value) (w:World):(Instr.makeInterface 113 v).run Tryz.prog w= .ok (.iface 113 v) w:=run_makeInterface w 113 v (by kernel_rfl)
section
attribute [local go_sem] mk_n3
theorem cnew_3 {l:List Int} (hl:l.length≤600) (hr:∀x∈l,0≤x∧isB x=true) (w:World):Calls Tryz.prog 34 #[.int .i64 3] w (NewPost 113 171 150 l (told (u16B false) unN () l) w):=by
 go_enter Tryz.func34,Tryz.ntmps34;go_wp2_with fail;refine (uni16_new false _).mono ?_;rintro e w1 ⟨rfl,h1,h2,h3⟩
 go_wp2_with fail;go_ret2;exact ⟨_,Nat.le_refl _,h1.lt,rfl,h2,fun wy hy=>rdy_uni16 false (h1.below hy) hl hr⟩
end
theorem mk_n4 (v:Value) (w:World):(Instr.makeInterface 115 v).run Tryz.prog w= .ok (.iface 115 v) w:=run_makeInterface w 115 v (by kernel_rfl)
section
attribute [local go_sem] mk_n4
theorem cnew_4 {l:List Int} (hl:l.length≤600) (hr:∀x∈l,0≤x∧isB x=true) (w:World):Calls Tryz.prog 34 #[.int .i64 4] w (NewPost 115 173 153 l (told (u32B true) unN () l) w):=by
 go_enter Tryz.func34,Tryz.ntmps34;go_wp2_with fail;refine (uni32_new true _).mono ?_;rintro e w1 ⟨rfl,h1,h2,h3⟩
 go_wp2_with fail;go_ret2;exact ⟨_,Nat.le_refl _,h1.lt,rfl,h2,fun wy hy=>rdy_uni32 true (h1.below hy) hl hr⟩
end
theorem mk_n5 (v:Value) (w:World):(Instr.makeInterface 115 v).run Tryz.prog w= .ok (.iface 115 v) w:=run_makeInterface w 115 v (by kernel_rfl)
section
attribute [local go_sem] mk_n5
theorem cnew_5 {l:List Int} (hl:l.length≤600) (hr:∀x∈l,0≤x∧isB x=true) (w:World):Calls Tryz.prog 34 #[.int .i64 5] w (NewPost 115 173 153 l (told (u32B false) unN () l) w):=by
 go_enter Tryz.func34,Tryz.ntmps34;go_wp2_with fail;refine (uni32_new false _).mono ?_;rintro e w1 ⟨rfl,h1,h2,h3⟩
 go_wp2_with fail;go_ret2;exact ⟨_,Nat.le_refl _,h1.lt,rfl,h2,fun wy hy=>rdy_uni32 false (h1.below hy) hl hr⟩
end
theorem mk_n6 (v:Value) (w:World):(Instr.makeInterface 117 v).run Tryz.prog w= .ok (.iface 117 v) w:=run_makeInterface w 117 v (by kernel_rfl)
section
attribute [local go_sem] mk_n6
theorem cnew_6 {l:List Int} (hl:l.length≤600) (hr:∀x∈l,0≤x∧isB x=true) (w:World):Calls Tryz.prog 34 #[.int .i64 6] w (NewPost 117 178 155 l (told ebB unN () l) w):=by
 go_enter Tryz.func34,Tryz.ntmps34;go_wp2_with fail;refine (ebcdic_new _).mono ?_;rintro e w1 ⟨g,hg,rfl,h1,h2,h3⟩
 go_wp2_with fail;go_ret2;exact ⟨g,Nat.le_of_lt hg,h1.lt,rfl,h3,fun wy hy=>rdy_ebcdic (h1.below hy) ((hy.block _ (Array.getElem?_eq_some_iff.1 h2).1).trans h2) (by omega) hl hr⟩
end
def encS (c:Int) (l:List Int):List Int:=
 if c=1 then told u8B unN () l else if c=2 then told (u16B true) unN () l else if c=3 then told (u16B false) unN () l else if c=4 then told (u32B true) unN () l
 else if c=5 then told (u32B false) unN () l else if c=6 then told ebB unN () l else told bocuB bocuN 64 l
theorem encode_all {c:Int} (hc:(1≤c∧c≤6)∨c=8) {w:World} {A:Option Addr} {cap:Nat} {l:List Int} (hL:∀wx,Below w.heap.size w wx→Lst wx .u32 A l) (hr:∀x∈l,0≤x∧isB x=true) (hl:l.length≤600) (hcap:l.length≤cap):
  Calls Tryz.prog 17 #[.int .i64 c,.slice A l.length cap] w (EncPost w (encS c l)):=by
 have:c=1∨c=2∨c=3∨c=4∨c=5∨c=6∨c=8:=by omega
 rcases this with rfl|rfl|rfl|rfl|rfl|rfl|rfl
 ·exact encode_uni8 (cnew_1 hl hr) (told_len unN (fun _ c=>uni8B_len c) l ()) hL hl hcap
 ·exact encode_uni16 (cnew_2 hl hr) (told_len unN (fun _ c=>uni16B_len true c) l ()) hL hl hcap
 ·exact encode_uni16 (cnew_3 hl hr) (told_len unN (fun _ c=>uni16B_len false c) l ()) hL hl hcap
 ·exact encode_uni32 (cnew_4 hl hr) (told_len unN (fun _ c=>uni32B_len true c) l ()) hL hl hcap
 ·exact encode_uni32 (cnew_5 hl hr) (told_len unN (fun _ c=>uni32B_len false c) l ()) hL hl hcap
 ·exact encode_ebcdic (cnew_6 hl hr) (told_len unN ebB_len l ()) hL hl hcap
 ·exact encode_bocu hL hr hl hcap
end Out
end Go.Proofs.YtooiooledeblmaaGreat
