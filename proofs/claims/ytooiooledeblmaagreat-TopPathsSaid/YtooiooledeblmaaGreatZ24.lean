/- The document's bytes by UTF-EBCDIC: all bytes turned by the document's rows. Punycode's text, number by number: the document's order of the numbers is the program's. Punycode's numbers: what the document says of Put and Adapt is what the program tells. -/
import Derived.Test.YtooiooledeblmaaGreatZ23
import Derived.Laws.Strings2
import Derived.Deep.QuietTactic
import Derived.BigQuiet
set_option linter.unusedVariables false
set_option linter.unusedSimpArgs false
namespace Go.Proofs.YtooiooledeblmaaGreat
namespace Ref
open Go.RowKit Win Stp Go.Proofs.YtooiooledeblmaaGreat.Lst Out Dec
set_option maxRecDepth 100000 in
def rowsL:List Int:=[48,48,48,49,48,50,48,51,51,55,50,68,50,69,50,70,49,54,48,53,49,53,48,66,48,67,48,68,48,69,48,70,49,48,49,49,49,50,49,51,51,67,51,68,51,50,50,54,49,56,49,57,51,70,50,55,49,67,49,68,49,69,49,70,52,48,53,65,55,70,55,66,53,66,54,67,53,48,55,68,52,68,53,68,53,67,52,69,54,66,54,48,52,66,54,49,70,48,70,49,70,50,70,51,70,52,70,53,70,54,70,55,70,56,70,57,55,65,53,69,52,67,55,69,54,69,54,70,55,67,67,49,67,50,67,51,67,52,67,53,67,54,67,55,67,56,67,57,68,49,68,50,68,51,68,52,68,53,68,54,68,55,68,56,68,57,69,50,69,51,69,52,69,53,69,54,69,55,69,56,69,57,65,68,69,48,66,68,53,70,54,68,55,57,56,49,56,50,56,51,56,52,56,53,56,54,56,55,56,56,56,57,57,49,57,50,57,51,57,52,57,53,57,54,57,55,57,56,57,57,65,50,65,51,65,52,65,53,65,54,65,55,65,56,65,57,67,48,52,70,68,48,65,49,48,55,50,48,50,49,50,50,50,51,50,52,50,53,48,54,49,55,50,56,50,57,50,65,50,66,50,67,48,57,48,65,49,66,51,48,51,49,49,65,51,51,51,52,51,53,51,54,48,56,51,56,51,57,51,65,51,66,48,52,49,52,51,69,70,70]
def dgV (x:Int):Int:=if 65≤x then x-65+10 else x-48
set_option maxRecDepth 100000 in
theorem rows_tab:∀i:Fin 160,48≤rowsL.getD (2*i.val) 0∧rowsL.getD (2*i.val) 0≤70∧48≤rowsL.getD (2*i.val+1) 0∧rowsL.getD (2*i.val+1) 0≤70∧16*dgV (rowsL.getD (2*i.val) 0)+dgV (rowsL.getD (2*i.val+1) 0)=knownL.getD i.val 0∧0≤knownL.getD i.val 0∧knownL.getD i.val 0≤255:=by decide +kernel
set_option maxRecDepth 100000 in
theorem rows_rng:∀x∈rowsL,0≤x∧x≤255:=by decide +kernel
theorem rows_len:rowsL.length=320:=by decide +kernel
theorem num_at {S:List Int} (hr:∀x∈S,0≤x∧x≤255):∀a,(ha:a<(strOfNums S).size)→((strOfNums S)[a].toNat:Int)=S.getD a 0:=fun a ha=>by
 rw [←byt_at (strOfNums S) a ha,Dcd.byt_nums hr]
set_option maxRecDepth 100000 in
theorem rows_calls (w:World):Calls Tryz.prog 119 #[] w fun e w'=>e= .returned (.string (strOfNums rowsL))∧w=w':=by
 go_enter Tryz.func119,Tryz.ntmps119;go_wp2;go_ret;exact ⟨by kernel_rfl,rfl⟩
theorem digit7_calls (x:Int) (w:World) (h0:48≤x) (h1:x≤70):Calls Tryz.prog 118 #[.int .u8 x] w fun e w'=>e= .returned (.int .i64 (dgV x))∧w=w':=by
 unfold dgV
 by_cases h:65≤x
 ·rw [if_pos h]
  go_enter Tryz.func118,Tryz.ntmps118;go_wp2;go_ret;exact ⟨rfl,rfl⟩
 ·rw [if_neg h]
  go_enter Tryz.func118,Tryz.ntmps118;go_wp2;go_ret;exact ⟨rfl,rfl⟩
set_option maxRecDepth 100000 in
set_option maxHeartbeats 4000000 in
theorem known7_calls (i:Nat) (hi:i<160) (w:World):Calls Tryz.prog 109 #[.int .i64 i] w fun e w'=>e= .returned (.int .i64 (knownL.getD i 0))∧w=w':=by
 obtain ⟨a1,a2,b1,b2,hk,k0,k1⟩:=rows_tab ⟨i,hi⟩
 simp only at a1 a2 b1 b2 hk k0 k1;have hat:=num_at rows_rng;have hsz:=str_size rowsL;rw [rows_len] at hsz;have hrows:=rows_calls;generalize strOfNums rowsL=s at hat hsz hrows;have e1:=hat (2*i) (by omega)
 have e2:=hat (2*i+1) (by omega)
 have HD1:=Lib.hid (fun w=>digit7_calls (rowsL.getD (2*i) 0) w a1 a2)
 have HD2:=Lib.hid (fun w=>digit7_calls (rowsL.getD (2*i+1) 0) w b1 b2)
 rw [←e1] at HD1 hk;rw [←e2] at HD2 hk;have d1:0≤dgV (s[2*i].toNat:Int)∧dgV (s[2*i].toNat:Int)≤30:=by rw [e1];unfold dgV;split <;>omega
 have d2:0≤dgV (s[2*i+1].toNat:Int)∧dgV (s[2*i+1].toNat:Int)≤30:=by rw [e2];unfold dgV;split <;>omega
 generalize hx1:dgV (s[2*i].toNat:Int)=x1 at*;generalize hx2:dgV (s[2*i+1].toNat:Int)=x2 at*;have HR:=Lib.hid hrows;have HK:=Lib.hid hk;have HI:=Lib.hid (show (2:Int)*(i:Int)=((2*i:Nat):Int) by omega)
 clear hat hrows e1 e2 hx1 hx2 hk a1 a2 b1 b2 k0 k1;go_enter Tryz.func109,Tryz.ntmps109;go_wp2_with (go_at_call 119;refine (HR.out _).mono ?_;rintro e w1 ⟨rfl,rfl⟩)
 refine (HD1.out _).mono ?_;rintro e w1 ⟨rfl,rfl⟩
 go_wp2_with (go_at_call 119;refine (HR.out _).mono ?_;rintro e w1 ⟨rfl,rfl⟩)
 refine (HD2.out _).mono ?_;rintro e w1 ⟨rfl,rfl⟩
 go_wp2_with fail;go_ret;exact ⟨by rw [←HK.out];rfl,rfl⟩
def allN:Nat→List Int
 |0=>knownL
 |x+1=>allN x++if knownL.contains (x:Int)=true then [] else [(x:Int)]
set_option maxRecDepth 100000 in
theorem allN_all:allN 256=toL:=by decide +kernel
theorem known_len:knownL.length=160:=by decide +kernel
theorem allN_len:∀x,160≤(allN x).length∧(allN x).length≤160+x
 |0=>by rw [allN,known_len];omega
 |x+1=>by
  have:=allN_len x;rw [allN,List.length_append]
  split <;>simp <;>omega
theorem allN_get (k:Nat) (hk:k<160):∀x,(allN x).getD k 0=knownL.getD k 0
 |0=>rfl
 |x+1=>by
  have h1:=allN_get k hk x;have h2:=(allN_len x).1;rw [allN,←h1,List.getD_eq_getElem?_getD,List.getD_eq_getElem?_getD,List.getElem?_append_left (by omega)]
theorem has_succ (x:Int) (k:Nat) (hk:k<160):(knownL.take (k+1)).contains x=((knownL.take k).contains x||(knownL.getD k 0==x)):=by
 rw [List.take_succ_eq_append_getElem (by rw [known_len];exact hk),List.getD_eq_getElem?_getD,List.getElem?_eq_getElem (by rw [known_len];exact hk)]
 generalize knownL.take k=T;simp only [List.contains_append]
 generalize T.contains x=b;simp only [Option.getD_some,List.contains_cons,List.contains_nil,Bool.or_false]
 rw [Bool.eq_iff_iff]
 simp only [Bool.or_eq_true,beq_iff_eq]
 exact or_congr Iff.rfl eq_comm
theorem lst_one {w:World} {r:Nat} {y:Int} (h:w.cell? ⟨r,0,none⟩=some (.int .u8 y)):Lst w .u8 (some ⟨r,0,none⟩) [y]:=fun j hj=>by
 have:j=0:=by simp at hj;omega
 subst this;exact ⟨_,rfl,h⟩
theorem appz {P:Program} (hP:P=Tryz.prog) {w:World} {ops:Array Oper} {rest:List Oper} {o:Oper} {a:Act} {Q:Exit→Act→World→Prop} (hgd:o.guard=none) (s x:Operand)
  (ho:o.op= .call {callee:=.builtin .append,args:=#[s,x],argTypes:=#[68,68]})
  (base:Nat) (v:Value) (xs:List Int) (hs:a.eval s=v) (hown:w.ownsRow base 5 1 v xs.length (u8s xs)) (ys zs:List Int) (hz:zs=xs++ys)
  (A:Option Addr) (n c:Nat) (hx:a.eval x= .slice A n c) (hn:ys.length=n) (hL:Lst w .u8 A ys) (hnil:A=none→c=0) (h63:xs.length+n≤1000000) (hbase:base≤w.heap.size)
  (h:∀v' w',w'.ownsRow base 5 1 v' zs.length (u8s zs)→w.grownBy w' v.ownBlock→wpList P ops Q rest (a.put o.dst v') w'):wpList P ops Q (o::rest) a w:=by
 subst hz hn;exact app8 hP hgd s x ho base v xs hs hown A c ys hx hL hnil h63 hbase (fun A' c' w' h1 h2 _=>h _ w' h1 h2)
theorem app1 {P:Program} (hP:P=Tryz.prog) {w:World} {ops:Array Oper} {rest:List Oper} {o:Oper} {a:Act} {Q:Exit→Act→World→Prop} (hgd:o.guard=none) (s x:Operand)
  (ho:o.op= .call {callee:=.builtin .append,args:=#[s,x],argTypes:=#[68,68]})
  (base:Nat) (v:Value) (xs:List Int) (hs:a.eval s=v) (hown:w.ownsRow base 5 1 v xs.length (u8s xs)) (y:Int) (zs:List Int) (hz:zs=xs++[y])
  (r:Nat) (hx:a.eval x= .slice (some ⟨r,0,none⟩) 1 1) (hc:w.cell? ⟨r,0,none⟩=some (.int .u8 y)) (h63:xs.length≤900000) (hbase:base≤w.heap.size)
  (h:∀v' w',w'.ownsRow base 5 1 v' zs.length (u8s zs)→w.grownBy w' v.ownBlock→wpList P ops Q rest (a.put o.dst v') w'):wpList P ops Q (o::rest) a w:=
 appz hP hgd s x ho base v xs hs hown [y] zs hz (some ⟨r,0,none⟩) 1 1 hx rfl (lst_one hc) (by intro h;cases h) (by omega) hbase h
def Own8 (w:World) (l:List Int) (v:Value) (wr:World):Prop:=wr.ownsRow w.heap.size 5 1 v l.length (u8s l)∧Below w.heap.size w wr
theorem cell_new (w:World) (x:Int):(w.alloc (.cells #[.int .u8 x] 5)).cell? ⟨w.heap.size,0,none⟩=some (.int .u8 x):=by rw [cell_of (heap_alloc_new _ _)];rfl
set_option maxRecDepth 100000 in
set_option maxHeartbeats 8000000 in
theorem all7_calls (w:World):Calls Tryz.prog 80 #[] w (Str toL w):=by
 go_enter Tryz.func80,Tryz.ntmps80;go_wp2_with fail;go_loopw [1,2] (fun v1 v2 wr=>∃k:Nat,k≤160∧v2= .int .i64 k∧Own8 w (knownL.take k) v1 wr) (fun _ v2 _=>160-(intOf v2).toNat)
 case atStart=>exact ⟨0,Nat.zero_le _,rfl,own_none w _ (Nat.le_refl _),(Below.refl _ _).alloc (Nat.le_refl _) _⟩
 case round=>
  obtain ⟨k,hk,rfl,ho,hb⟩:=hrel;have htl:(knownL.take k).length=k:=by rw [List.length_take,known_len];omega
  have HO:=Lib.hid ho;have HB:=Lib.hid hb;clear ho hb
  by_cases hlt:k<160
  ·have hkn:=known7_calls k hlt
   obtain ⟨_,_,_,_,_,x0,x1⟩:=rows_tab ⟨k,hlt⟩
   simp only at x0 x1;have hts:knownL.take (k+1)=knownL.take k++[knownL.getD k 0]:=by
    rw [List.take_succ_eq_append_getElem (by rw [known_len];exact hlt),List.getD_eq_getElem?_getD,List.getElem?_eq_getElem (by rw [known_len];exact hlt)]
    rfl
   generalize knownL.getD k 0=x at hkn x0 x1 hts;have w1:IntKind.u8.wrap x=x:=by rw [IntKind.wrap_u8];omega
   have HTS:=Lib.hid hts;have HK:=Lib.hid hkn;have HOa:=Lib.hid (HO.out.alloc (.cells #[.int .u8 x] 5))
   have HCa:=Lib.hid (cell_new wr x)
   have HBa:=Lib.hid (HB.out.alloc HB.out.size (.cells #[.int .u8 x] 5))
   clear hts hkn;go_wp2_with (first|(go_at_call 109;refine (HK.out _).mono ?_;rintro e w1 ⟨rfl,rfl⟩)|(at_builtin;refine app1 rfl rfl _ _ rfl w.heap.size _ _ rfl HOa.out _ _ HTS.out _ rfl HCa.out (by omega) HBa.out.size ?_;intro v' w2 h1 h2;have H1:=Lib.hid h1;have H2:=Lib.hid (HBa.out.grown h2 HBa.out.size (fun k hk=>(HOa.out.lt k hk).1));clear h1 h2))
   go_roundw
   case rel=>exact ⟨k+1,hlt,by go_num,H1.out,H2.out⟩
   case measure=>simp [intOf];omega
  ·have ht:knownL.take k=allN 0:=by rw [allN,List.take_of_length_le (by rw [known_len];omega)]
   rw [ht] at HO;clear htl ht;go_wp2_with fail;go_loopw [1,3] (fun v1 v3 wr=>∃x:Nat,x≤256∧v3= .int .i64 x∧Own8 w (allN x) v1 wr) (fun _ v3 _=>256-(intOf v3).toNat)
   case atStart=>exact ⟨0,Nat.zero_le _,rfl,HO.out,HB.out⟩
   case round=>
    obtain ⟨x,hx,rfl,ho,hb⟩:=hrel;obtain ⟨A,c,rfl⟩:=owns_form ho;have HO:=Lib.hid ho;have HB:=Lib.hid hb;clear ho hb
    by_cases hlt:x<256
    ·have hll:=allN_len x
     have w1:IntKind.u8.wrap (x:Int)=x:=by rw [IntKind.wrap_u8];omega
     have HLs:=Lib.hid (lst8_of HO.out)
     go_wp2_with fail;go_loopw [4,5] (fun v4 v5 wx=>∃k:Nat,k≤160∧v4= .bool ((knownL.take k).contains (x:Int))∧v5= .int .i64 k∧wr=wx) (fun _ v5 _=>160-(intOf v5).toNat)
     case atStart=>exact ⟨0,Nat.zero_le _,rfl,rfl,rfl⟩
     case round=>
      obtain ⟨k,hk,rfl,rfl,rfl⟩:=hrel
      by_cases hkl:k<160
      ·have hsu:=has_succ (x:Int) k hkl
       obtain ⟨a,rfl,hc⟩:=HLs.out k (by omega)
       rw [allN_get k hkl] at hc;generalize knownL.getD k 0=y at hc hsu;have HSu:=Lib.hid hsu;clear hsu
       cases hcn:(knownL.take k).contains (x:Int) with
       |true=>
        rw [hcn] at HSu;go_wp2_with fail;go_roundw
        case rel=>exact ⟨k+1,hkl,by rw [HSu.out];rfl,by go_num,trivial⟩
        case measure=>simp [intOf];omega
       |false=>
        rw [hcn] at HSu;go_wp2_with fail;go_roundw
        case rel=>exact ⟨k+1,hkl,by rw [HSu.out];rfl,by go_num,trivial⟩
        case measure=>simp [intOf];omega
      ·obtain rfl:k=160:=by omega
       rw [List.take_of_length_le (by rw [known_len];exact Nat.le_refl _)]
       have hsx:allN (x+1)=allN x++if knownL.contains (x:Int)=true then [] else [(x:Int)]:=rfl
       cases hcn:knownL.contains (x:Int) with
       |true=>
        rw [hcn,if_pos rfl,List.append_nil] at hsx;have HSx:=Lib.hid hsx;clear hsx;go_wp2_with fail;go_roundw
        case rel=>exact ⟨x+1,hlt,by go_num,by rw [HSx.out];exact HO.out,HB.out⟩
        case measure=>simp [intOf];omega
       |false=>
        rw [hcn,if_neg (by decide)] at hsx;have HSx:=Lib.hid hsx;have HOa:=Lib.hid (HO.out.alloc (.cells #[.int .u8 (x:Int)] 5))
        have HCa:=Lib.hid (cell_new wr (x:Int))
        have HBa:=Lib.hid (HB.out.alloc HB.out.size (.cells #[.int .u8 (x:Int)] 5))
        clear hsx;go_wp2_with (at_builtin;refine app1 rfl rfl _ _ rfl w.heap.size _ _ rfl HOa.out _ _ HSx.out _ rfl HCa.out (by omega) HBa.out.size ?_;intro v' w2 h1 h2;have H1:=Lib.hid h1;have H2:=Lib.hid (HBa.out.grown h2 HBa.out.size (fun k hk=>(HOa.out.lt k hk).1));clear h1 h2)
        go_roundw
        case rel=>exact ⟨x+1,hlt,by go_num,H1.out,H2.out⟩
        case measure=>simp [intOf];omega
    ·obtain rfl:x=256:=by omega
     rw [allN_all] at HO;rw [allN_all]
     have hcv:=conv_own HO.out rfl;go_wp2_with fail;go_ret;exact ⟨rfl,HB.out⟩
theorem toL_len:toL.length=256:=by decide +kernel
theorem toL_rng:∀x∈toL,0≤x∧x≤255:=by decide +kernel
set_option maxRecDepth 100000 in
set_option maxHeartbeats 8000000 in
theorem turn7_calls (l:List Int) (w:World) (hl:l.length≤100000) (hr:∀x∈l,0≤x∧x≤255):Calls Tryz.prog 79 #[.string (strOfNums l),.string (strOfNums toL)] w (Str (l.map toF) w):=by
 have h1:=num_at hr;have h2:=num_at toL_rng;have s1:=str_size l;have s2:=str_size toL;rw [toL_len] at s2;generalize strOfNums l=s at h1 s1 ⊢;generalize strOfNums toL=t at h2 s2 ⊢;have H1:=Lib.hid h1;have H2:=Lib.hid h2;have HR:=Lib.hid hr;clear h1 h2 hr;go_enter Tryz.func79,Tryz.ntmps79;go_wp2_with fail;go_loopw [5,6] (fun v5 v6 wr=>∃k:Nat,k≤l.length∧v6= .int .i64 k∧Own8 w ((l.take k).map toF) v5 wr) (fun _ v6 _=>l.length-(intOf v6).toNat)
 case atStart=>exact ⟨0,Nat.zero_le _,rfl,own_none w _ (Nat.le_refl _),(Below.refl _ _).alloc (Nat.le_refl _) _⟩
 case round=>
  obtain ⟨k,hk,rfl,ho,hb⟩:=hrel;have htl:((l.take k).map toF).length=k:=by rw [List.length_map,List.length_take];omega
  have HO:=Lib.hid ho;have HB:=Lib.hid hb;clear ho hb
  by_cases hlt:k<l.length
  ·have hks:k<s.size:=by omega
   have e1:=H1.out k hks;have hxr:=HR.out (l.getD k 0) (by rw [List.getD_eq_getElem?_getD,List.getElem?_eq_getElem hlt];exact List.getElem_mem _)
   have hts:(l.take (k+1)).map toF=(l.take k).map toF++[toF (l.getD k 0)]:=by
    rw [List.take_succ_eq_append_getElem hlt,List.map_append,List.getD_eq_getElem?_getD,List.getElem?_eq_getElem hlt]
    rfl
   rw [←e1] at hxr hts;have hjt:s[k].toNat<t.size:=by omega
   have e2:=H2.out s[k].toNat hjt;have htf:toF (s[k].toNat:Int)=(t[s[k].toNat].toNat:Int):=by rw [e2];unfold toF;rw [Int.toNat_natCast]
   rw [htf] at hts;obtain ⟨y,hy⟩:∃y:Int,y=(t[s[k].toNat].toNat:Int):=⟨_,rfl⟩
   have HTS:=Lib.hid hts;have HOa:=Lib.hid (HO.out.alloc (.cells #[.int .u8 (t[s[k].toNat].toNat:Int)] 5))
   have HCa:=Lib.hid (cell_new wr (t[s[k].toNat].toNat:Int))
   have HBa:=Lib.hid (HB.out.alloc HB.out.size (.cells #[.int .u8 (t[s[k].toNat].toNat:Int)] 5))
   clear hts htf e1 e2 hxr hy;go_wp2_with (at_builtin;refine app1 rfl rfl _ _ rfl w.heap.size _ _ rfl HOa.out _ _ HTS.out _ rfl HCa.out (by omega) HBa.out.size ?_;intro v' w2 h1 h2;have H1:=Lib.hid h1;have H2:=Lib.hid (HBa.out.grown h2 HBa.out.size (fun k hk=>(HOa.out.lt k hk).1));clear h1 h2)
   go_roundw
   case rel=>exact ⟨k+1,hlt,by go_num,H1.out,H2.out⟩
   case measure=>simp [intOf];omega
  ·obtain rfl:k=l.length:=by omega
   rw [List.take_length] at HO;have hcv:=conv_own HO.out rfl;go_wp2_with fail;go_ret;exact ⟨rfl,HB.out⟩
theorem text7_calls (l:List Int) (w:World) (hl:l.length≤100000) (hr:∀x∈l,0≤x∧x≤255):Calls Tryz.prog 44 #[.string (strOfNums l)] w (Str (l.map toF) w):=by
 have HT:=Lib.hid (fun w=>turn7_calls l w hl hr)
 generalize strOfNums l=s at HT ⊢;clear hr;go_enter Tryz.func44,Tryz.ntmps44;go_wp2_with fail;refine (all7_calls _).mono ?_;rintro e w1 ⟨rfl,hb1⟩
 have HB1:=Lib.hid hb1;clear hb1;go_wp2_with fail;refine (HT.out _).mono ?_;rintro e w2 ⟨rfl,hb2⟩
 have HB2:=Lib.hid (HB1.out.trans (Below.mono hb2 HB1.out.size))
 clear hb2;go_wp2_with fail;go_ret;exact ⟨rfl,HB2.out⟩
theorem bytes8_calls {A:Option Addr} {cap:Nat} {l:List Int} {w:World} (hL:Lst w .u32 A l) (hl:l.length≤1000) (hs:∀x∈l,0≤x∧isB x=true):Calls Tryz.prog 26 #[.slice A l.length cap] w (Str ((l.flatMap mod8B).map toF) w):=by
 have h1:=flat_len mod8B_len l;have hr:∀x∈l.flatMap mod8B,0≤x∧x≤255:=fun x hx=>by
  obtain ⟨c,hc,hx⟩:=List.mem_flatMap.1 hx;exact mod8B_rng (hs c hc).1 (hs c hc).2 x hx
 have H6:=Lib.hid (bytes6_calls (cap:=cap) hL hl hs)
 have HT:=Lib.hid (fun w=>text7_calls (l.flatMap mod8B) w (by omega) hr)
 generalize (l.flatMap mod8B).map toF=R at HT ⊢;clear hL hs hr h1;go_enter Tryz.func26,Tryz.ntmps26;go_wp2_with fail;refine H6.out.mono ?_;rintro e w1 ⟨rfl,hb1⟩
 have HB1:=Lib.hid hb1;clear hb1;go_wp2_with fail;refine (HT.out _).mono ?_;rintro e w2 ⟨rfl,hb2⟩
 have HB2:=Lib.hid (HB1.out.trans (Below.mono hb2 HB1.out.size))
 clear hb2;go_wp2_with fail;go_ret;exact ⟨rfl,HB2.out⟩
end Ref
namespace Pun
open Go.RowKit Go.Sort
def ahB (l:List Int) (i k:Nat):Bool:=
 if l.getD i 0<128∨l.getD k 0<128 then decide (l.getD i 0<128)&&decide (128≤l.getD k 0) else decide (l.getD i 0<l.getD k 0)||(decide (l.getD i 0=l.getD k 0)&&decide (i<k))
def befB (l:List Int) (i k:Nat):Bool:=ahB l k i||(decide (l.getD k 0<128)&&decide (l.getD i 0<128)&&decide (k<i))
def befN (l:List Int) (i:Nat):Nat→Nat
 |0=>0
 |k+1=>befN l i k+if befB l i k=true then 1 else 0
def bef (l:List Int) (i:Nat):Nat:=befN l i l.length
def plcN (l:List Int) (a:Nat):Nat→Nat
 |0=>0
 |k+1=>plcN l a k+if ahB l k a=true then 1 else 0
def plc (l:List Int) (a:Nat):Nat:=plcN l a a
def atF (l:List Int) (d:Nat):Nat→Nat
 |0=>0
 |n+1=>if bef l n=d then n else atF l d n
def at_ (l:List Int) (d:Nat):Nat:=atF l d l.length
structure RS where
 n:Int
 w:Int
 b:Int
 o:List Int
def rdel (l:List Int) (d:Nat) (s:RS):Int:=(l.getD (at_ l d) 0-s.n)*((d:Int)+1)+(plc l (at_ l d):Int)-s.w
def rstep (l:List Int) (d:Nat) (s:RS):RS:=
 ⟨l.getD (at_ l d) 0,(plc l (at_ l d):Int)+1,adaptS (rdel l d s) ((d:Int)+1) (d==(low l).length),s.o++putS (rdel l d s) s.b⟩
def rst (l:List Int):Nat→RS
 |0=>⟨128,0,72,start0 l⟩
 |t+1=>rstep l ((low l).length+t) (rst l t)
theorem cnt_one (l:List Int) (j:Nat) (hj:j<l.length) (m:Int):cnt (l.take (j+1)) m=cnt (l.take j) m+if l.getD j 0<m then 1 else 0:=by
 unfold cnt;rw [List.take_succ_eq_append_getElem hj,List.countP_append,List.getD_eq_getElem?_getD,List.getElem?_eq_getElem hj]
 simp [List.countP_cons]
theorem befB_hi {l:List Int} {i k:Nat} (h:128≤l.getD i 0):befB l i k=(decide (l.getD k 0<l.getD i 0)||(decide (l.getD k 0=l.getD i 0)&&decide (k<i))):=by
 unfold befB ahB;generalize l.getD i 0=x at h;generalize l.getD k 0=y;rw [Bool.eq_iff_iff]
 by_cases hy:y<128
 ·simp [hy,show y<x by omega,show ¬x<128 by omega,h]
 ·simp [hy,show ¬x<128 by omega]
theorem befB_lo {l:List Int} {i k:Nat} (h:l.getD i 0<128):befB l i k=(decide (l.getD k 0<128)&&decide (k<i)):=by
 unfold befB ahB;generalize l.getD i 0=x at h;generalize l.getD k 0=y;rw [Bool.eq_iff_iff]
 by_cases hy:y<128
 ·simp [hy,h];omega
 ·simp [hy,h]
theorem ahB_hi {l:List Int} {i k:Nat} (h:128≤l.getD i 0) (hk:k<i):ahB l k i=decide (l.getD k 0<l.getD i 0+1):=by
 unfold ahB;generalize l.getD i 0=x at h;generalize l.getD k 0=y;rw [Bool.eq_iff_iff]
 by_cases hy:y<128
 ·simp [hy,h];omega
 ·simp [hy,show ¬x<128 by omega,hk];omega
theorem befN_hi {l:List Int} {i:Nat} (hi:i<l.length) (h:128≤l.getD i 0):∀k,k≤l.length→befN l i k=cnt (l.take k) (l.getD i 0)+eqs (l.take (min i k)) (l.getD i 0)
 |0,_=>by simp [befN,cnt,eqs]
 |k+1,hk=>by
  have ih:=befN_hi hi h k (by omega)
  have h1:=cnt_one l k (by omega) (l.getD i 0)
  unfold befN;rw [ih,h1,befB_hi h]
  by_cases hki:k<i
  ·have h2:=take_one l k (by omega) (l.getD i 0)
   rw [Nat.min_eq_right (by omega),Nat.min_eq_right (by omega),h2]
   clear h1 h2 ih h;generalize l.getD i 0=x;generalize l.getD k 0=y
   by_cases a:y<x
   ·simp [a,show ¬y=x by omega];omega
   ·by_cases b:y=x
    ·subst b;simp [hki];omega
    ·simp [a,b]
  ·rw [Nat.min_eq_left (by omega),Nat.min_eq_left (by omega)]
   clear h1 ih h;generalize l.getD i 0=x;generalize l.getD k 0=y
   by_cases a:y<x
   ·simp [a];omega
   ·simp [a,hki]
theorem bef_hi {l:List Int} {i:Nat} (hi:i<l.length) (h:128≤l.getD i 0):bef l i=cnt l (l.getD i 0)+eqs (l.take i) (l.getD i 0):=by
 have:=befN_hi hi h l.length (Nat.le_refl _)
 rw [List.take_length,Nat.min_eq_left (by omega)] at this;exact this
theorem befN_lo {l:List Int} {i:Nat} (hi:i<l.length) (h:l.getD i 0<128):∀k,k≤l.length→befN l i k=cnt (l.take (min i k)) 128
 |0,_=>by simp [befN,cnt]
 |k+1,hk=>by
  have ih:=befN_lo hi h k (by omega)
  unfold befN;rw [ih,befB_lo h]
  by_cases hki:k<i
  ·have h1:=cnt_one l k (by omega) 128
   rw [Nat.min_eq_right (by omega),Nat.min_eq_right (by omega),h1]
   clear h1 ih h;generalize l.getD k 0=y
   by_cases a:y<128
   ·simp [a,hki]
   ·simp [a]
  ·rw [Nat.min_eq_left (by omega),Nat.min_eq_left (by omega)]
   simp [hki]
theorem cnt_take (l:List Int) (m:Int) (i:Nat):cnt (l.take i) m≤cnt l m:=by
 unfold cnt;exact List.Sublist.countP_le (List.take_sublist i l)
theorem take_le {α:Type} (l:List α) (i j:Nat) (h:i≤j):l.take i=(l.take j).take i:=by rw [List.take_take,Nat.min_eq_left h]
theorem bef_lo {l:List Int} {i:Nat} (hi:i<l.length) (h:l.getD i 0<128):bef l i<(low l).length:=by
 have h1:=befN_lo hi h l.length (Nat.le_refl _)
 rw [Nat.min_eq_left (by omega)] at h1;have h2:=cnt_one l i hi 128;rw [if_pos h] at h2;have h3:=cnt_take l 128 (i+1)
 rw [low_cnt]
 unfold bef;omega
theorem eqs_lt {l:List Int} {i j:Nat} (hij:i<j) (hj:j<l.length):eqs (l.take i) (l.getD i 0)<eqs (l.take j) (l.getD i 0):=by
 have h1:=take_one l i (by omega) (l.getD i 0)
 rw [if_pos rfl] at h1;have h2:=eqs_take (l.take j) (l.getD i 0) (i+1)
 rw [←take_le l (i+1) j (by omega)] at h2;omega
theorem eqs_lt2 {l:List Int} {i:Nat} (hi:i<l.length):eqs (l.take i) (l.getD i 0)<eqs l (l.getD i 0):=by
 have h1:=take_one l i (by omega) (l.getD i 0)
 rw [if_pos rfl] at h1;have h2:=eqs_take l (l.getD i 0) (i+1)
 omega
theorem bef_lt {l:List Int} {i j:Nat} (hi:i<l.length) (hj:j<l.length) (h:128≤l.getD i 0) (hlt:l.getD i 0<l.getD j 0):bef l i<bef l j:=by
 rw [bef_hi hi h,bef_hi hj (by omega)]
 have h1:=eqs_lt2 hi;have h2:=cnt_succ (l.getD i 0) l;have h3:=cnt_mono (l.getD i 0+1) (l.getD j 0) (by omega) l;omega
theorem bef_ne {l:List Int} {i j:Nat} (hi:i<l.length) (hj:j<l.length) (h:128≤l.getD j 0) (hij:i≠j):bef l i≠bef l j:=by
 by_cases h1:l.getD i 0<128
 ·have a:=bef_lo hi h1
  rw [bef_hi hj h]
  have b:=cnt_mono 128 (l.getD j 0) h l;rw [low_cnt] at a;omega
 ·by_cases h2:l.getD i 0<l.getD j 0
  ·have:=bef_lt hi hj (by omega) h2;omega
  ·by_cases h3:l.getD j 0<l.getD i 0
   ·have:=bef_lt hj hi h h3;omega
   ·have he:l.getD i 0=l.getD j 0:=by omega
    rw [bef_hi hi (by omega),bef_hi hj h]
    rcases Nat.lt_or_gt_of_ne hij with h4|h4
    ·have:=eqs_lt h4 hj
     rw [he] at this ⊢;omega
    ·have:=eqs_lt h4 hi
     rw [he]
     omega
theorem atF_at {l:List Int} {j d:Nat} (hb:bef l j=d):∀n,j<n→(∀i,i<n→i≠j→bef l i≠d)→atF l d n=j
 |0,h,_=>by omega
 |n+1,h,hn=>by
  unfold atF
  by_cases hj:j=n
  ·subst hj
   rw [if_pos hb]
  ·rw [if_neg (hn n (by omega) (fun e=>hj e.symm))]
   exact atF_at hb n (by omega) (fun i hi=>hn i (by omega))
theorem at_hi {l:List Int} {j:Nat} (hj:j<l.length) (h:128≤l.getD j 0):at_ l (bef l j)=j:=
 atF_at rfl l.length hj (fun i hi hij=>bef_ne hi hj h hij)
theorem plcN_hi {l:List Int} {a:Nat} (ha:a<l.length) (h:128≤l.getD a 0):∀k,k≤a→plcN l a k=cnt (l.take k) (l.getD a 0+1)
 |0,_=>by simp [plcN,cnt]
 |k+1,hk=>by
  have ih:=plcN_hi ha h k (by omega)
  have h1:=cnt_one l k (by omega) (l.getD a 0+1)
  unfold plcN;rw [ih,h1,ahB_hi h (by omega)]
  simp
theorem plc_hi {l:List Int} {a:Nat} (ha:a<l.length) (h:128≤l.getD a 0):plc l a=cnt (l.take a) (l.getD a 0)+eqs (l.take a) (l.getD a 0):=by
 have:=plcN_hi ha h a (Nat.le_refl _)
 rw [cnt_succ] at this;exact this
structure RGood (l:List Int) (t:Nat):Prop where
 a:at_ l ((low l).length+t)<l.length
 n0:128≤(rst l t).n
 na:(rst l t).n≤l.getD (at_ l ((low l).length+t)) 0
 w0:0≤(rst l t).w
 w1:(rst l t).w≤1000
 p1:plc l (at_ l ((low l).length+t))≤1000
 d0:0≤rdel l ((low l).length+t) (rst l t)
 d1:rdel l ((low l).length+t) (rst l t)<100000000000
 b0:0≤(rst l t).b
 b1:(rst l t).b≤1000
 ol:(rst l t).o.length≤12*l.length+1
structure RIn (l:List Int) (m:Int) (j:Nat) (s:PS):Prop where
 k:s.k=cnt l m+eqs (l.take j) m
 r:∃n w:Int,rst l (s.k-(low l).length)=⟨n,w,s.b,s.o⟩∧128≤n∧n≤m∧0≤w∧w≤61∧s.d=(m-n)*((s.k:Int)+1)+cnt (l.take j) m+eqs (l.take j) m-w
 g:∀t,t<s.k-(low l).length→RGood l t
theorem rin_step {l:List Int} {m:Int} {j:Nat} {s:PS} (hl:l.length≤60) (hm0:128≤m) (hm:m≤1114111) (hj:j<l.length) (hp:PIn l m j s) (h:RIn l m j s):RIn l m (j+1) (pin1 m (low l).length s (l.getD j 0)):=by
 obtain ⟨n,w,e,n0,n1,w0,w1,hd⟩:=h.r;have hk:=h.k;have h1:=cnt_one l j hj m;have h2:=take_one l j hj m;have h3:=cnt_mono 128 m hm0 l;have h4:=low_cnt l;unfold pin1
 by_cases a:l.getD j 0<m
 ·rw [if_pos a]
  rw [if_pos a] at h1;rw [if_neg (by omega)] at h2;refine ⟨by simp only;omega,⟨n,w,e,n0,n1,w0,w1,?_⟩,h.g⟩
  simp only;rw [hd]
  omega
 ·rw [if_neg a]
  rw [if_neg a] at h1
  by_cases b:l.getD j 0=m
  ·rw [if_pos b]
   rw [if_pos b] at h2;have hb:=bef_hi hj (by omega)
   have hat:=at_hi hj (by omega)
   have hpl:=plc_hi hj (by omega)
   rw [b] at hb hpl;rw [hb,←hk] at hat;have hsum:(low l).length+(s.k-(low l).length)=s.k:=by omega
   have hrd:rdel l s.k (rst l (s.k-(low l).length))=s.d:=by
    unfold rdel;rw [hat,hpl,b,e,hd]
    simp only;omega
   have hc1:=cnt_le (l.take j) m;have hc2:=cnt_succ m (l.take j)
   have hc3:=cnt_le (l.take j) (m+1)
   have hlt:(l.take j).length≤60:=by rw [List.length_take];omega
   have hkl:=cnt_le l (m+1)
   have hks:=cnt_succ m l;have heq:=eqs_take l m (j+1)
   have hd0:=hp.d0;have hd1:=hp.d1;have hol:=hp.ol;have hstep:rst l (s.k+1-(low l).length)=⟨m,(plc l j:Int)+1,adaptS s.d ((s.k:Int)+1) (s.k==(low l).length),s.o++putS s.d s.b⟩:=by
    rw [show s.k+1-(low l).length=s.k-(low l).length+1 by omega]
    show rstep l ((low l).length+(s.k-(low l).length)) (rst l (s.k-(low l).length))=_
    rw [hsum]
    unfold rstep;rw [hrd,hat,b,e]
   refine ⟨by simp only;omega,⟨m,(plc l j:Int)+1,hstep,hm0,Int.le_refl _,by omega,by omega,?_⟩,?_⟩
   ·simp only
    rw [Int.sub_self,Int.zero_mul]
    omega
   ·intro t ht
    simp only at ht
    by_cases htk:t=s.k-(low l).length
    ·subst htk
     have eb:(rst l (s.k-(low l).length)).b=s.b:=by rw [e]
     refine ⟨by rw [hsum,hat];exact hj,by rw [e];exact n0,by rw [hsum,hat,b,e];exact n1,by rw [e];exact w0,by rw [e];simp only;omega,by rw [hsum,hat,hpl];omega,by rw [hsum,hrd];exact hd0,by rw [hsum,hrd];omega,by rw [e];exact hp.b0,by rw [e];exact hp.b1,by rw [e];simp only;omega⟩
    ·exact h.g t (by omega)
  ·rw [if_neg b]
   rw [if_neg b] at h2;refine ⟨by omega,⟨n,w,e,n0,n1,w0,w1,?_⟩,h.g⟩
   rw [hd]
   omega
theorem rin_fold {l:List Int} {m:Int} (hl:l.length≤60) (hm0:128≤m) (hm:m≤1114111):∀(n j:Nat) (s:PS),j+n=l.length→PIn l m j s→RIn l m j s→RIn l m l.length ((l.drop j).foldl (pin1 m (low l).length) s)
 |0,j,s,hj,hp,h=>by
  rw [List.drop_of_length_le (by omega)]
  obtain rfl:j=l.length:=by omega
  exact h
 |n+1,j,s,hj,hp,h=>by
  rw [List.drop_eq_getElem_cons (by omega),List.foldl_cons]
  have h1:=pin_step (low l).length hl hm0 hm (by omega) hp;have h2:=rin_step hl hm0 hm (by omega) hp h;rw [List.getD_eq_getElem?_getD,List.getElem?_eq_getElem (by omega)] at h1 h2;exact rin_fold hl hm0 hm n (j+1) _ (by omega) h1 h2
structure ROut (l:List Int) (p:Int) (s:PS) (rest:List Int):Prop where
 k:s.k=cnt l p
 r:∃n w:Int,rst l (s.k-(low l).length)=⟨n,w,s.b,s.o⟩∧128≤n∧n≤p∧0≤w∧w≤61∧s.d=(p-n)*((s.k:Int)+1)-w
 g:∀t,t<s.k-(low l).length→RGood l t
 m:∀x∈l,p≤x→x∈rest
theorem cnt_same {l:List Int} {p m:Int} (h:p≤m) (hn:∀x∈l,p≤x→m≤x):cnt l m=cnt l p:=by
 unfold cnt;refine List.countP_congr fun x hx=>?_
 have:=hn x hx;simp
 constructor
 ·intro h1
  by_cases h2:p≤x
  ·have:=this h2;omega
  ·omega
 ·intro h1;omega
theorem rout_fold {l:List Int} (hl:l.length≤60):∀(rest:List Int) (n:Int) (s:PS),PInv l n s rest→ROut l n s rest→∃n' s',(rest.foldl (pout1 l (low l).length) (n,s))=(n',s')∧PInv l n' s' []∧ROut l n' s' []
 |[],n,s,hp,h=>⟨n,s,rfl,hp,h⟩
 |m::rest,p,s,hp,h=>by
  obtain ⟨n,w,e,n0,n1,w0,w1,hd⟩:=h.r;have hm:=hp.lo m (by simp)
  have hp0:=hp.n0;have hhi:=hp.hi m (by simp)
  have hpw:=List.pairwise_cons.1 hp.srt;have hc:cnt l m=cnt l p:=cnt_same hm (fun x hx hpx=>by
   rcases List.mem_cons.1 (h.m x hx hpx) with rfl|hr
   ·exact Int.le_refl _
   ·have:=hpw.1 x hr;omega)
  have h0:RIn l m 0 ⟨s.d+(m-p)*((s.k:Int)+1),s.b,s.k,s.o⟩:=by
   refine ⟨?_,⟨n,w,e,n0,by omega,w0,w1,?_⟩,h.g⟩
   ·have:=h.k
    simp [eqs,hc]
    exact this
   ·simp only [List.take_zero]
    rw [hd]
    have e1:(m-n)*((s.k:Int)+1)=(p-n)*((s.k:Int)+1)+(m-p)*((s.k:Int)+1):=by
     rw [←Int.add_mul]
     congr 1
     omega
    rw [e1]
    simp [cnt,eqs]
    omega
  have hpi:=pin_start hl hp;have h1:=pin_fold (low l).length hl (by omega) hhi l.length 0 _ (by omega) hpi;have h2:=rin_fold hl (by omega) hhi l.length 0 _ (by omega) hpi h0;rw [List.drop_zero] at h1 h2;have h3:=pin_end hl hp h1;rw [List.foldl_cons]
  have ep:pout1 l (low l).length (p,s) m=(m+1,⟨(l.foldl (pin1 m (low l).length) ⟨s.d+(m-p)*((s.k:Int)+1),s.b,s.k,s.o⟩).d+1,(l.foldl (pin1 m (low l).length) ⟨s.d+(m-p)*((s.k:Int)+1),s.b,s.k,s.o⟩).b,(l.foldl (pin1 m (low l).length) ⟨s.d+(m-p)*((s.k:Int)+1),s.b,s.k,s.o⟩).k,(l.foldl (pin1 m (low l).length) ⟨s.d+(m-p)*((s.k:Int)+1),s.b,s.k,s.o⟩).o⟩):=rfl;rw [ep]
  generalize l.foldl (pin1 m (low l).length) ⟨s.d+(m-p)*((s.k:Int)+1),s.b,s.k,s.o⟩=s' at h1 h2 h3 ⊢;refine rout_fold hl rest (m+1) _ h3 ?_;obtain ⟨n',w',e',n0',n1',w0',w1',hd'⟩:=h2.r;have hk':=h2.k;rw [List.take_length] at hk' hd';have hcs:=cnt_succ m l;refine ⟨by simp only;omega,⟨n',w',e',n0',by omega,w0',w1',?_⟩,h2.g,?_⟩
  ·simp only
   rw [hd']
   have e1:(m+1-n')*((s'.k:Int)+1)=(m-n')*((s'.k:Int)+1)+((s'.k:Int)+1):=by
    rw [show m+1-n'=(m-n')+1 by omega,Int.add_mul,Int.one_mul]
   rw [e1]
   omega
  ·intro x hx hpx
   rcases List.mem_cons.1 (h.m x hx (by omega)) with rfl|hr
   ·omega
   ·exact hr
theorem rst_text {l:List Int} (hl:l.length≤60) (hs:∀x∈l,x≤1114111):(rst l (l.length-(low l).length)).o=textP l∧∀t,t<l.length-(low l).length→RGood l t:=by
 have h0:ROut l 128 ⟨0,72,(low l).length,start0 l⟩ (ms l):=by
  refine ⟨low_cnt l,⟨128,0,?_,by omega,by omega,by omega,by omega,by simp⟩,?_,fun x hx h=>(ms_mem l x).2 ⟨hx,h⟩⟩
  ·simp [rst]
  ·intro t ht
   simp only at ht;omega
 obtain ⟨n',s',e,hp,hr⟩:=rout_fold hl (ms l) 128 _ (pinv_start l hs) h0;obtain ⟨n,w,e2,_⟩:=hr.r;have hk:=hr.k;have hc:cnt l n'=l.length:=by
  unfold cnt;rw [List.countP_eq_length]
  intro x hx;simp
  by_cases h:n'≤x
  ·exact absurd (hr.m x hx h) (by simp)
  ·omega
 rw [hc] at hk;have hg:=hr.g;rw [hk] at e2 hg;refine ⟨?_,hg⟩
 rw [e2]
 unfold textP;rw [e]
end Pun
namespace Ref
open Go.RowKit Win Stp Go.Proofs.YtooiooledeblmaaGreat.Lst Out Pun
theorem bound_calls (n:Int) (w:World):Calls Tryz.prog 111 #[.int .i64 n] w fun e w'=>e= .returned (.int .i64 (sm n))∧w=w':=by
 unfold sm
 by_cases h1:n<0
 ·rw [if_pos h1]
  go_enter Tryz.func111,Tryz.ntmps111;go_wp2;go_ret;exact ⟨rfl,rfl⟩
 ·rw [if_neg h1]
  by_cases h2:n>1000
  ·rw [if_pos h2]
   go_enter Tryz.func111,Tryz.ntmps111;go_wp2;go_ret;exact ⟨rfl,rfl⟩
  ·rw [if_neg h2]
   go_enter Tryz.func111,Tryz.ntmps111;go_wp2;go_ret;exact ⟨rfl,rfl⟩
theorem thr9_calls (p b:Int) (w:World):Calls Tryz.prog 82 #[.int .i64 p,.int .i64 b] w fun e w'=>e= .returned (.int .i64 (thr p b))∧w=w':=by
 unfold thr;have HP:=Lib.hid (bound_calls p)
 have HB:=Lib.hid (bound_calls b)
 obtain ⟨p0,p1⟩:=sm_in p;obtain ⟨b0,b1⟩:=sm_in b;generalize sm p=P at*;generalize sm b=B at*;go_enter Tryz.func82,Tryz.ntmps82;go_wp2_with fail;refine (HP.out _).mono ?_;rintro e w1 ⟨rfl,rfl⟩
 go_wp2_with fail;refine (HB.out _).mono ?_;rintro e w1 ⟨rfl,rfl⟩
 go_wp2_with fail
 all_goals
  go_ret;exact ⟨rfl,rfl⟩
def digL:List Int:=[97,98,99,100,101,102,103,104,105,106,107,108,109,110,111,112,113,114,115,116,117,118,119,120,121,122,48,49,50,51,52,53,54,55,56,57]
theorem dig_at:∀v:Fin 36,(digL.drop v.val).take (v.val+1-v.val)=[let36 (v.val:Int)]:=by decide +kernel
theorem digits_calls (w:World):Calls Tryz.prog 83 #[] w fun e w'=>e= .returned (.string (strOfNums digL))∧w=w':=by
 go_enter Tryz.func83,Tryz.ntmps83;go_wp2;go_ret;exact ⟨by kernel_rfl,rfl⟩
def P9Rel (w:World) (n b:Int) (v0 v5 v6:Value) (wr:World):Prop:=
 ∃(p m:Nat) (r:Int) (S:List Int),v6= .int .i64 p∧v0= .int .u64 r∧v5= .string (strOfNums S)∧p+m=11∧0≤r∧r<tens m∧r≤n∧S.length=p∧S++putD (m+1) r b p=putS n b∧w=wr
set_option maxRecDepth 100000 in
set_option maxHeartbeats 4000000 in
theorem put9_calls (n b:Int) (w:World) (h0:0≤n) (h1:n<100000000000):Calls Tryz.prog 47 #[.int .u64 n,.int .i64 b] w fun e w'=>e= .returned (.string (strOfNums (putS n b)))∧w=w':=by
 have hini:n<tens 11:=by simp only [tens];omega
 have hex:∀v:Nat,v<36→(strOfNums digL).extract v (v+1)=strOfNums [let36 (v:Int)]:=fun v hv=>by rw [str_extract,dig_at ⟨v,hv⟩]
 have hsz:(strOfNums digL).size=36:=by rw [str_size];rfl
 have HDg:=Lib.hid digits_calls;generalize strOfNums digL=D at hex hsz HDg;have HEx:=Lib.hid hex;obtain ⟨R,hR⟩:∃R,R=putS n b:=⟨_,rfl⟩
 have HR:=Lib.hid hR;rw [←hR]
 clear hex hR;go_enter Tryz.func47,Tryz.ntmps47;go_wp2_with fail;go_loopw [0,5,6] (fun v0 v5 v6 wr=>P9Rel w n b v0 v5 v6 wr) (fun _ _ v6 _=>200-(intOf v6).toNat)
 case atStart=>exact ⟨0,11,n,[],rfl,rfl,rfl,rfl,h0,hini,Int.le_refl _,rfl,rfl,rfl⟩
 case round=>
  obtain ⟨p,m,r,S,rfl,rfl,rfl,hpm,r0,r1,rn,hSl,hps,rfl⟩:=hrel;have HT:=Lib.hid (fun w=>thr9_calls (p:Int) b w)
  have ht:=thr_in (p:Int) b;have hp2:p<200:=by omega
  have hrr:r<100000000000:=by omega
  have hzs:(strOfNums S).size≤20:=by rw [str_size];omega
  rw [putD] at hps
  by_cases hlt:r<thr (p:Int) b
  ·rw [if_pos hlt] at hps
   obtain ⟨N,rfl⟩:∃N:Nat,r=(N:Int):=⟨r.toNat,by omega⟩
   have hx:=HEx.out N (by omega)
   have HAp:=Lib.hid ((str_append S [let36 (N:Int)]).trans (by rw [hps]))
   have hs1:(strOfNums [let36 (N:Int)]).size=1:=by rw [str_size];rfl
   generalize strOfNums [let36 (N:Int)]=q at hx HAp hs1;generalize thr (p:Int) b=t at*;have hN:N<36:=by omega
   have hsl:(Instr.slice 9 (.string D) (some (.int .u64 (N:Int))) (some (.int .u64 ((N:Int)+1))) none).run Tryz.prog w= .ok (.string q) w:=by
    rw [run_slice_string w 9 D .u64 .u64 (N:Int) ((N:Int)+1) Tryz.underlying9 (by omega) (by omega) (by omega),Int.toNat_natCast,show ((N:Int)+1).toNat=N+1 by omega,hx]
   clear hps r1 rn hrr hx;go_wp2_with fail;refine (HT.out _).mono ?_;rintro e w1 ⟨rfl,rfl⟩
   go_wp2_with fail;refine (HDg.out _).mono ?_;rintro e w1 ⟨rfl,rfl⟩
   go_wp2_with fail;go_ret;exact ⟨by rw [HR.out,←HAp.out];rfl,rfl⟩
  ·rw [if_neg hlt] at hps
   obtain ⟨m,rfl⟩:∃q,m=q+1:=by
    cases m with
    |zero=>simp [tens] at r1;omega
    |succ m=>exact ⟨m,rfl⟩
   simp only [tens] at r1;have hq:=div_bd (x:=r-thr (p:Int) b) (t:=36-thr (p:Int) b) (m:=tens m) (by omega) (by omega) (by omega)
   have hqn:(r-thr (p:Int) b)/(36-thr (p:Int) b)≤r-thr (p:Int) b:=Int.ediv_le_self _ (by omega)
   have m0:0≤(r-thr (p:Int) b)%(36-thr (p:Int) b):=Int.emod_nonneg _ (by omega)
   have m1:(r-thr (p:Int) b)%(36-thr (p:Int) b)<36-thr (p:Int) b:=Int.emod_lt_of_pos _ (by omega)
   have qd:Int.tdiv (r-thr (p:Int) b) (36-thr (p:Int) b)=(r-thr (p:Int) b)/(36-thr (p:Int) b):=Int.tdiv_eq_ediv_of_nonneg (by omega)
   have qm:Int.tmod (r-thr (p:Int) b) (36-thr (p:Int) b)=(r-thr (p:Int) b)%(36-thr (p:Int) b):=Int.tmod_eq_emod_of_nonneg (by omega)
   have u1:IntKind.u64.wrap (r-thr (p:Int) b)=r-thr (p:Int) b:=u64w (by omega) (by omega)
   have u2:IntKind.u64.wrap (36-thr (p:Int) b)=36-thr (p:Int) b:=u64w (by omega) (by omega)
   have u3:IntKind.u64.wrap ((r-thr (p:Int) b)/(36-thr (p:Int) b))=(r-thr (p:Int) b)/(36-thr (p:Int) b):=u64w (by omega) (by omega)
   have ht36:36-thr (p:Int) b≠0:=by omega
   generalize thr (p:Int) b=t at*;generalize (r-t)/(36-t)=r' at*;obtain ⟨N,hN⟩:∃N:Nat,t+(r-t)%(36-t)=(N:Int):=⟨(t+(r-t)%(36-t)).toNat,by omega⟩
   rw [hN] at hps;have hN36:N<36:=by omega
   have hx:=HEx.out N hN36;have HAp:=Lib.hid (str_append S [let36 (N:Int)])
   have hs1:(strOfNums [let36 (N:Int)]).size=1:=by rw [str_size];rfl
   obtain ⟨q,hqs⟩:∃q,q=strOfNums [let36 (N:Int)]:=⟨_,rfl⟩
   rw [←hqs] at hx HAp hs1;have hsl:(Instr.slice 9 (.string D) (some (.int .u64 (N:Int))) (some (.int .u64 ((N:Int)+1))) none).run Tryz.prog w= .ok (.string q) w:=by
    rw [run_slice_string w 9 D .u64 .u64 (N:Int) ((N:Int)+1) Tryz.underlying9 (by omega) (by omega) (by omega),Int.toNat_natCast,show ((N:Int)+1).toNat=N+1 by omega,hx]
   have HPs:=Lib.hid hps;have HQ:=Lib.hid hq;have HB:=Lib.hid (show r'≤n by omega)
   have u4:IntKind.u64.wrap (t+(r-t)%(36-t))=(N:Int):=by rw [hN];exact u64w (by omega) (by omega)
   clear hps r1 rn hrr hq hqn m0 m1 hqs hN h1 hini hx;go_wp2_with fail;refine (HT.out _).mono ?_;rintro e w1 ⟨rfl,rfl⟩
   go_wp2_with fail;refine (HDg.out _).mono ?_;rintro e w1 ⟨rfl,rfl⟩
   go_wp2_with fail;go_roundw
   case rel=>exact ⟨p+1,m,r',S++[let36 (N:Int)],by go_num,rfl,by rw [HAp.out],by omega,HQ.out.1,HQ.out.2,HB.out,by simp;omega,by rw [List.append_assoc];exact HPs.out,rfl⟩
   case measure=>simp [intOf];omega
def A9Rel (w:World) (R:Int) (v0 v7:Value) (wr:World):Prop:=∃(k m:Nat) (y:Int),v0= .int .u64 y∧v7= .int .i64 k∧k+m=11∧0≤y∧y<bnd m∧adL m y (36*k)=R∧w=wr
theorem bnd_le:∀m:Nat,m≤11→bnd m≤100000000000000000000:=by
 intro m hm;have key:∀m:Fin 12,bnd m.val≤100000000000000000000:=by decide +kernel
 exact key ⟨m,by omega⟩
theorem ad_stop {m:Nat} {y i:Int} (h:¬y>455):adL m y i=i+36*y/(y+38):=by
 cases m with
 |zero=>rfl
 |succ m=>rw [adL,if_neg h]
set_option maxRecDepth 100000 in
set_option maxHeartbeats 4000000 in
theorem adapt9_calls (d p:Int) (first:Bool) (w:World) (h0:0≤d) (h1:d<100000000000) (hp:1≤p) (hp2:p≤1000000):Calls Tryz.prog 48 #[.int .u64 d,.int .u64 p,.bool first] w fun e w'=>e= .returned (.int .i64 (adaptS d p first))∧w=w':=by
 have hpz:(p==0)=false:=by rw [beq_eq_false_iff_ne];omega
 obtain ⟨x,hx⟩:∃x,x=(if first=true then d/700 else d/2):=⟨_,rfl⟩
 have x0:0≤x:=by rw [hx];split <;>omega
 have x1:x<100000000000:=by rw [hx];split <;>omega
 obtain ⟨R,hR⟩:∃R,R=adaptS d p first:=⟨_,rfl⟩
 have hR2:R=adL 11 (x+x/p) 0:=by rw [hR,hx];rfl
 rw [←hR]
 have y0:0≤x/p:=Int.ediv_nonneg x0 (by omega)
 have y1:x/p≤x:=Int.ediv_le_self _ x0;have e2:x.tdiv p=x/p:=Int.tdiv_eq_ediv_of_nonneg x0;have u1:IntKind.u64.wrap x=x:=u64w x0 (by omega)
 have u2:IntKind.u64.wrap (x/p)=x/p:=u64w y0 (by omega)
 have hpn:p≠0:=by omega
 have u3:IntKind.u64.wrap (x+x/p)=x+x/p:=u64w (by omega) (by omega)
 have HZ:=Lib.hid (show 0≤x+x/p∧x+x/p<bnd 11 by simp only [bnd];omega)
 have HR2:=Lib.hid hR2;have e3:d.tdiv 700=d/700:=Int.tdiv_eq_ediv_of_nonneg h0;have e4:d.tdiv 2=d/2:=Int.tdiv_eq_ediv_of_nonneg h0;have HX:=Lib.hid hx;clear x0 x1 y0 y1 h0 h1 hp2 hR hR2 hx;go_enter Tryz.func48,Tryz.ntmps48;go_upto_if 10 with fail;go_cut [0] (fun v wx=>v= .int .u64 x∧w=wx)
 case first=>
  have hx:=HX.out
  cases first with
  |true=>
   rw [if_pos rfl] at hx;go_wp2_with fail;go_meet;exact ⟨by rw [←hx,u1],rfl⟩
  |false=>
   rw [if_neg (by decide)] at hx;go_wp2_with fail;go_meet;exact ⟨by rw [←hx,u1],rfl⟩
 case rest=>
  obtain ⟨rfl,rfl⟩:=hcut;clear e3 e4;go_wp2_with fail;go_loopw [0,7] (fun v0 v7 wr=>A9Rel w R v0 v7 wr) (fun v0 _ _=>(intOf v0).toNat)
  case atStart=>exact ⟨0,11,_,rfl,rfl,rfl,HZ.out.1,HZ.out.2,HR2.out.symm,rfl⟩
  case round=>
   obtain ⟨k,m,y,rfl,rfl,hkm,y0,y1,hr,rfl⟩:=hrel;have hb:=bnd_le m (by omega)
   by_cases hy:y>455
   ·obtain ⟨m,rfl⟩:∃q,m=q+1:=by
     cases m with
     |zero=>simp [bnd] at y1;omega
     |succ m=>exact ⟨m,rfl⟩
    rw [adL,if_pos hy] at hr;simp only [bnd] at y1 hb;have HS:=Lib.hid (show 0≤y/35∧y/35<bnd m∧y/35<y by omega)
    have e1:y.tdiv 35=y/35:=Int.tdiv_eq_ediv_of_nonneg y0;have HRr:=Lib.hid hr;have u5:IntKind.u64.wrap (y/35)=y/35:=by rw [IntKind.wrap_u64];omega
    clear hb hr y1;go_wp2_with fail;go_roundw
    case rel=>exact ⟨k+1,m,y/35,rfl,by go_num,by omega,HS.out.1,HS.out.2.1,by rw [←HRr.out];congr 1,rfl⟩
    case measure=>simp [intOf];have:=HS.out.2.2;omega
   ·rw [ad_stop hy] at hr
    have hq:=ad_q y y0;have hk11:k≤11:=by omega
    have q1:IntKind.u64.wrap (36*y)=36*y:=u64w (by omega) (by omega)
    have q2:IntKind.u64.wrap (y+38)=y+38:=u64w (by omega) (by omega)
    have q3:(36*y).tdiv (y+38)=36*y/(y+38):=Int.tdiv_eq_ediv_of_nonneg (by omega)
    have q0:y+38≠0:=by omega
    generalize 36*y/(y+38)=v at hq q3 hr;obtain ⟨v0,v1⟩:=hq;have q4:IntKind.u64.wrap v=v:=u64w v0 (by omega)
    have HRr:=Lib.hid hr;clear hb hr y1 hkm HX HZ HR2 u1 u2 u3 e2;go_wp2_with fail;go_ret;exact ⟨by rw [←HRr.out];rfl,rfl⟩
end Ref
namespace Ref
open Go.RowKit Win Stp Go.Proofs.YtooiooledeblmaaGreat.Lst Out Pun
theorem ahead_calls {A:Option Addr} {cap:Nat} {l:List Int} {w:World} (hL:Lst w .u32 A l) (i k:Nat) (hi:i<l.length) (hk:k<l.length) (hl:l.length≤1000):Calls Tryz.prog 46 #[.slice A l.length cap,.int .i64 i,.int .i64 k] w fun e w'=>e= .returned (.bool (ahB l i k))∧Below w.heap.size w w':=by
 obtain ⟨a,rfl,q1⟩:=hL i hi;obtain ⟨a',ha,q2⟩:=hL k hk;injection ha with ha
 subst ha;unfold ahB;generalize l.getD i 0=x at*;generalize l.getD k 0=y at*
 by_cases h1:x<128
 ·rw [if_pos (.inl h1),decide_eq_true h1,Bool.true_and]
  by_cases h2:128≤y
  ·rw [decide_eq_true h2]
   go_enter Tryz.func46,Tryz.ntmps46;go_wp2_with fail;go_ret;exact ⟨rfl,Below.refl _ _⟩
  ·rw [decide_eq_false h2]
   go_enter Tryz.func46,Tryz.ntmps46;go_wp2_with fail;go_ret;exact ⟨rfl,Below.refl _ _⟩
 ·by_cases h2:y<128
  ·rw [if_pos (.inr h2),decide_eq_false h1,Bool.false_and]
   go_enter Tryz.func46,Tryz.ntmps46;go_wp2_with fail;go_ret;exact ⟨rfl,Below.refl _ _⟩
  ·rw [if_neg (by omega)]
   by_cases h3:x<y
   ·rw [decide_eq_true h3,Bool.true_or]
    go_enter Tryz.func46,Tryz.ntmps46;go_wp2_with fail;go_quiet (fail)
    go_wp2_with fail;go_ret;exact ⟨rfl,below_drewN (Below.refl _ _) _⟩
   ·have h3':decide (x<y)=false:=decide_eq_false h3
    rw [h3',Bool.false_or]
    by_cases h4:x=y
    ·have h4':(x==y)=true:=by simp [h4]
     rw [decide_eq_true h4,Bool.true_and]
     clear h4 h3;go_enter Tryz.func46,Tryz.ntmps46;go_wp2_with fail;go_quiet (fail)
     go_wp2_with fail;go_ret;exact ⟨by simp,below_drewN (Below.refl _ _) _⟩
    ·have h4':(x==y)=false:=by simp [h4]
     rw [decide_eq_false h4,Bool.false_and]
     clear h4 h3;go_enter Tryz.func46,Tryz.ntmps46;go_wp2_with fail;go_quiet (fail)
     go_wp2_with fail;go_ret;exact ⟨rfl,below_drewN (Below.refl _ _) _⟩
theorem low_take {l:List Int} {k:Nat} (h:k<l.length):low (l.take (k+1))=low (l.take k)++if l.getD k 0<128 then [l.getD k 0] else []:=by
 unfold low;rw [List.take_succ_eq_append_getElem h,List.filter_append,List.getD_eq_getElem?_getD,List.getElem?_eq_getElem h]
 simp [List.filter_cons]
theorem low_le (l:List Int):(low l).length≤l.length:=List.length_filter_le _ _
theorem getD_in {l:List Int} {k:Nat} (h:k<l.length):l.getD k 0∈l:=by rw [List.getD_eq_getElem?_getD,List.getElem?_eq_getElem h];exact List.getElem_mem _
theorem befN_le (l:List Int) (i:Nat):∀k,befN l i k≤k
 |0=>Nat.le_refl _
 |k+1=>by have:=befN_le l i k;rw [befN];split <;>omega
theorem plcN_le (l:List Int) (a:Nat):∀k,plcN l a k≤k
 |0=>Nat.le_refl _
 |k+1=>by have:=plcN_le l a k;rw [plcN];split <;>omega
set_option maxRecDepth 100000 in
set_option maxHeartbeats 16000000 in
theorem bytes10_calls {A:Option Addr} {cap:Nat} {l:List Int} {w:World} (hL:Lst w .u32 A l) (hl:l.length≤60) (hs:∀x∈l,0≤x∧isB x=true):Calls Tryz.prog 27 #[.slice A l.length cap] w (Str (textP l) w):=by
 obtain ⟨hrt,hrg⟩:=rst_text hl (fun x hx=>(isB_iff.1 (hs x hx).2).1)
 have HL:=Lib.hid hL;have HS:=Lib.hid hs;have HRt:=Lib.hid hrt;have HRg:=Lib.hid hrg;have HF:=Lib.hid (Dcd.rfirst_calls (c:=cap) hL (by omega))
 clear hL hs hrt hrg;go_enter Tryz.func27,Tryz.ntmps27;go_wp2_with fail;refine HF.out.mono ?_;rintro e w1 ⟨r,rfl,hr,hd⟩
 obtain rfl:r= -1:=by
  rcases hr with ⟨rfl,_⟩|⟨_,x,hx,h⟩
  ·rfl
  ·have h1:=HS.out x hx
   have h2:=isB_iff.1 h1.2;have h3:Dcd.isS x=true:=Dcd.isS_iff.2 (by omega)
   rw [h] at h3
   cases h3
 have HB1:=Lib.hid (hd.below w.heap.size)
 clear hd hr;go_wp2_with fail;go_loopw [3,4,5] (fun v3 v4 v5 wr=>∃k:Nat,k≤l.length∧v5= .int .i64 k∧v3= .string (strOfNums (low (l.take k)))∧v4= .int .i64 ((low (l.take k)).length:Nat)∧Below w.heap.size w wr) (fun _ _ v5 _=>l.length-(intOf v5).toNat)
 case atStart=>exact ⟨0,Nat.zero_le _,rfl,rfl,rfl,HB1.out⟩
 case round=>
  obtain ⟨k,hk,rfl,rfl,rfl,hb⟩:=hrel;have HB:=Lib.hid hb;clear hb
  by_cases hlt:k<l.length
  ·obtain ⟨a,ha,hc⟩:=(HL.out.below HB.out) k hlt
   subst ha;have hx:=(HS.out _ (getD_in hlt)).1;have hlk:=low_take hlt;have hll:=low_le (l.take k)
   rw [List.length_take] at hll;generalize l.getD k 0=x at hc hlk hx;obtain ⟨S,hS⟩:∃S,S=low (l.take k):=⟨_,rfl⟩
   rw [←hS] at hlk hll ⊢;clear hS;have s0:(strOfNums S).size≤60:=by rw [str_size];omega
   by_cases h128:x<128
   ·rw [if_pos h128] at hlk
    have HLk:=Lib.hid hlk;have w1:IntKind.u8.wrap x=x:=by rw [IntKind.wrap_u8];omega
    have HAp:=Lib.hid (str_append S [x])
    have hz1:(strOfNums [x]).size≤5:=by rw [str_size];simp
    have hcv:(convert 68 9 (.slice (some ⟨wr.heap.size,0,none⟩) 1 1)).run Tryz.prog (wr.alloc (.cells #[.int .u8 x] 5))= .ok (.string (strOfNums [x])) (wr.alloc (.cells #[.int .u8 x] 5)):=conv_new wr [x] 1 rfl;have HB2:=Lib.hid (HB.out.alloc HB.out.size (.cells #[.int .u8 x] 5))
    clear hlk;go_wp2_with fail;go_roundw
    case rel=>exact ⟨k+1,hlt,by go_num,by rw [HLk.out,HAp.out],by rw [HLk.out,List.length_append];go_num,HB2.out⟩
    case measure=>simp [intOf];omega
   ·rw [if_neg h128,List.append_nil] at hlk
    have HLk:=Lib.hid hlk;clear hlk;go_wp2_with fail;go_roundw
    case rel=>exact ⟨k+1,hlt,by go_num,by rw [HLk.out],by rw [HLk.out],HB.out⟩
    case measure=>simp [intOf];omega
  ·obtain rfl:k=l.length:=by omega
   rw [List.take_length]
   have hBl:=low_le l;have hst:start0 l=low l++if 0<(low l).length then [45] else []:=rfl
   obtain ⟨S,hS⟩:∃S,S=strOfNums (low l):=⟨_,rfl⟩
   have s0:S.size≤60:=by rw [hS,str_size];omega
   have HAp:=Lib.hid (show S++strOfNums [45]=strOfNums (low l++[45]) by rw [hS,str_append])
   have HS0:=Lib.hid hS;rw [←hS]
   have HSt:=Lib.hid hst;clear hst hS;go_upto_if 44 with fail;go_cut [3] (fun v wx=>v= .string (strOfNums (start0 l))∧wr=wx)
   case first=>
    have hst:=HSt.out
    by_cases hp:0<(low l).length
    ·rw [if_pos hp] at hst
     have HSt2:=Lib.hid hst;clear hst;go_wp2_with fail;go_meet;exact ⟨by rw [HSt2.out,←HAp.out];rfl,rfl⟩
    ·rw [if_neg hp,List.append_nil] at hst
     have HSt2:=Lib.hid hst;clear hst;go_wp2_with fail;go_meet;exact ⟨by rw [HSt2.out,HS0.out],rfl⟩
   case rest=>
    obtain ⟨rfl,rfl⟩:=hcut;clear HAp HS0 HSt hlt hk s0 HB1;go_wp2_with fail;go_loopw [3,6,7,8,9] (fun v3 v6 v7 v8 v9 wr=>∃t D:Nat,D=(low l).length+t∧D≤l.length∧v3= .string (strOfNums (rst l t).o)∧v6= .int .u32 (rst l t).n∧v7= .int .i64 (rst l t).w∧v8= .int .i64 (rst l t).b∧v9= .int .i64 D∧Below w.heap.size w wr) (fun _ _ _ _ v9 _=>l.length-(intOf v9).toNat)
    case atStart=>exact ⟨0,_,rfl,hBl,rfl,rfl,rfl,rfl,rfl,HB.out⟩
    case round=>
     obtain ⟨t,D,hDt,hD,rfl,rfl,rfl,rfl,rfl,hb⟩:=hrel;have HB:=Lib.hid hb;have HDt:=Lib.hid hDt;clear hb
     by_cases hlt:D<l.length
     ·obtain ⟨ga,gn0,gna,gw0,gw1,gp1,gd0,gd1,gb0,gb1,gol⟩:=HRg.out t (by omega)
      obtain ⟨n,wv,b,o,hq⟩:∃n wv b o,rst l t=⟨n,wv,b,o⟩:=⟨_,_,_,_,rfl⟩
      have hnx:rst l (t+1)=rstep l D (rst l t):=by rw [hDt];rfl
      rw [hq] at hnx ⊢;rw [hq] at gn0 gna gw0 gw1 gd0 gd1 gb0 gb1 gol;simp only at gn0 gna gw0 gw1 gd0 gd1 gb0 gb1 gol;rw [←hDt] at ga gna gp1 gd0 gd1;have HG:=Lib.hid (And.intro gd0 gd1)
      have HNx:=Lib.hid hnx;have HQ:=Lib.hid (And.intro gna gp1)
      have HQa:=Lib.hid ga;clear hq hnx hDt gd0 gd1 gna gp1 ga;have s0:(strOfNums o).size≤800:=by rw [str_size];omega
      have HSo:=Lib.hid (str_append o)
      obtain ⟨SO,hSO⟩:∃S,S=strOfNums o:=⟨_,rfl⟩
      rw [←hSO] at s0 HSo ⊢;clear hSO gol;go_wp2_with fail;go_loopw [10,11] (fun v10 v11 wx=>∃i:Nat,i≤l.length∧v10= .int .i64 (atF l D i)∧v11= .int .i64 i∧Below w.heap.size w wx) (fun _ v11 _=>l.length-(intOf v11).toNat)
      case atStart=>exact ⟨0,Nat.zero_le _,rfl,rfl,HB.out⟩
      case round=>
       obtain ⟨i,hi,rfl,rfl,hb⟩:=hrel;have HBi:=Lib.hid hb;clear hb
       by_cases hil:i<l.length
       ·have hsu:atF l D (i+1)=if bef l i=D then i else atF l D i:=rfl
        have HSu:=Lib.hid hsu;clear hsu;generalize atF l D i=q at HSu ⊢;go_wp2_with fail;go_loopw [12,13] (fun v12 v13 wx=>∃k:Nat,k≤l.length∧v12= .int .i64 (befN l i k)∧v13= .int .i64 k∧Below w.heap.size w wx) (fun _ v13 _=>l.length-(intOf v13).toNat)
        case atStart=>exact ⟨0,Nat.zero_le _,rfl,rfl,HBi.out⟩
        case round=>
         obtain ⟨k,hk,rfl,rfl,hb⟩:=hrel;have HBk:=Lib.hid hb;clear hb
         by_cases hkl:k<l.length
         ·have hsu:befN l i (k+1)=befN l i k+if befB l i k=true then 1 else 0:=rfl
          have hz:befB l i k=(ahB l k i||(decide (l.getD k 0<128)&&decide (l.getD i 0<128)&&decide (k<i))):=rfl;have hbl:=befN_le l i k;generalize befN l i k=c at hsu hbl ⊢;have HSk:=Lib.hid hsu;clear hsu;generalize befB l i k=z at hz HSk;have HAh:=Lib.hid (ahead_calls (cap:=cap) (HL.out.below HBk.out) k i hkl hil (by omega))
          generalize hah:ahB l k i=ah at hz HAh;clear hah
          cases ah with
          |true=>
           rw [Bool.true_or] at hz;have HZ:=Lib.hid hz;clear hz;go_wp2_with fail;refine HAh.out.mono ?_;rintro e w2 ⟨rfl,hb2⟩
           have HB2:=Lib.hid (HBk.out.trans (Below.mono hb2 HBk.out.size))
           clear hb2;go_wp2_with fail;go_roundw
           case rel=>exact ⟨k+1,hkl,by rw [HSk.out,HZ.out];go_num,by go_num,HB2.out⟩
           case measure=>simp [intOf];omega
          |false=>
           rw [Bool.false_or] at hz;go_wp2_with fail;refine HAh.out.mono ?_;rintro e w2 ⟨rfl,hb2⟩
           have hb3:=HBk.out.trans (Below.mono hb2 HBk.out.size)
           obtain ⟨a1,ha1,q1⟩:=(HL.out.below hb3) k hkl;obtain ⟨a2,ha2,q2⟩:=(HL.out.below hb3) i hil;subst ha1;injection ha2 with ha2
           subst ha2;have HB2:=Lib.hid hb3;clear hb2 hb3;generalize l.getD k 0=x at q1 hz;generalize l.getD i 0=y at q2 hz;have hc:(x<128∧y<128∧k<i∧z=true)∨(x<128∧y<128∧¬k<i∧z=false)∨(x<128∧¬y<128∧z=false)∨(¬x<128∧z=false):=by
            by_cases c1:x<128 <;>by_cases c2:y<128 <;>by_cases c3:k<i <;>simp [hz,c1,c2,c3]
           clear hz;rcases hc with ⟨c1,c2,c3,hz⟩|⟨c1,c2,c3,hz⟩|⟨c1,c2,hz⟩|⟨c1,hz⟩
           all_goals
            have HZ:=Lib.hid hz;clear hz;go_wp2_with fail;go_roundw
            case rel=>exact ⟨k+1,hkl,by rw [HSk.out,HZ.out];go_num,by go_num,HB2.out⟩
            case measure=>simp [intOf];omega
         ·obtain rfl:k=l.length:=by omega
          have hbe:befN l i l.length=bef l i:=rfl;have hbl:=befN_le l i l.length;rw [hbe] at hbl ⊢;generalize bef l i=c at hbl HSu ⊢
          by_cases hcd:c=D
          ·have hs:=HSu.out
           rw [if_pos hcd] at hs;have HSv:=Lib.hid hs;have hbq:((c:Int)==(D:Int))=true:=by simp [hcd]
           clear hs hcd hbe hbl HSu;go_wp2_with fail;go_roundw
           case rel=>exact ⟨i+1,hil,by rw [HSv.out],by go_num,HBk.out⟩
           case measure=>simp [intOf];omega
          ·have hs:=HSu.out
           rw [if_neg hcd] at hs;have HSv:=Lib.hid hs;have hbq:((c:Int)==(D:Int))=false:=by simp;omega
           clear hs hcd hbe hbl HSu;go_wp2_with fail;go_roundw
           case rel=>exact ⟨i+1,hil,by rw [HSv.out],by go_num,HBk.out⟩
           case measure=>simp [intOf];omega
       ·obtain rfl:i=l.length:=by omega
        have hae:atF l D l.length=at_ l D:=rfl;have ha:=HQa.out;obtain ⟨gna,gp1⟩:=HQ.out;rw [hae]
        have HPe:=Lib.hid (show plcN l (at_ l D) (at_ l D)=plc l (at_ l D) from rfl)
        have HDl:=Lib.hid (show rdel l D ⟨n,wv,b,o⟩=(l.getD (at_ l D) 0-n)*((D:Int)+1)+(plc l (at_ l D):Int)-wv from rfl)
        have HStp:=Lib.hid (show rstep l D ⟨n,wv,b,o⟩=⟨l.getD (at_ l D) 0,(plc l (at_ l D):Int)+1,adaptS (rdel l D ⟨n,wv,b,o⟩) ((D:Int)+1) (D==(low l).length),o++putS (rdel l D ⟨n,wv,b,o⟩) b⟩ from rfl)
        generalize at_ l D=a at ha gna gp1 HPe HDl HStp ⊢;have HG1:=Lib.hid (And.intro gna gp1)
        clear hae gna gp1 HQ HQa;go_wp2_with fail;go_loopw [14,15] (fun v14 v15 wx=>∃k:Nat,k≤a∧v14= .int .i64 (plcN l a k)∧v15= .int .i64 k∧Below w.heap.size w wx) (fun _ v15 _=>a-(intOf v15).toNat)
        case atStart=>exact ⟨0,Nat.zero_le _,rfl,rfl,HBi.out⟩
        case round=>
         obtain ⟨k,hk,rfl,rfl,hb⟩:=hrel;have HBk:=Lib.hid hb;clear hb
         by_cases hka:k<a
         ·have hsu:plcN l a (k+1)=plcN l a k+if ahB l k a=true then 1 else 0:=rfl
          have hpl:=plcN_le l a k;generalize plcN l a k=c at hsu hpl ⊢;have HAh:=Lib.hid (ahead_calls (cap:=cap) (HL.out.below HBk.out) k a (by omega) ha (by omega))
          generalize hah:ahB l k a=ah at hsu HAh;have HSu:=Lib.hid hsu;clear hah hsu
          cases ah with
          |true=>
           go_wp2_with fail;refine HAh.out.mono ?_;rintro e w2 ⟨rfl,hb2⟩
           have HB2:=Lib.hid (HBk.out.trans (Below.mono hb2 HBk.out.size))
           clear hb2;go_wp2_with fail;go_roundw
           case rel=>exact ⟨k+1,hka,by rw [HSu.out];go_num,by go_num,HB2.out⟩
           case measure=>simp [intOf];omega
          |false=>
           go_wp2_with fail;refine HAh.out.mono ?_;rintro e w2 ⟨rfl,hb2⟩
           have HB2:=Lib.hid (HBk.out.trans (Below.mono hb2 HBk.out.size))
           clear hb2;go_wp2_with fail;go_roundw
           case rel=>exact ⟨k+1,hka,by rw [HSu.out];go_num,by go_num,HB2.out⟩
           case measure=>simp [intOf];omega
         ·obtain rfl:k=a:=by omega
          rw [HPe.out]
          obtain ⟨gna,gp1⟩:=HG1.out;obtain ⟨a1,ha1,q1⟩:=(HL.out.below HBk.out) k ha;subst ha1;have hxs:=HS.out _ (getD_in ha)
          have hx1:=(isB_iff.1 hxs.2).1;generalize l.getD k 0=x at q1 hxs hx1 gna HDl HStp;have hx0:=hxs.1;generalize plc l k=pc at gp1 HDl HStp ⊢;obtain ⟨hd0,hd1⟩:=HG.out;have hdl:=HDl.out;obtain ⟨dl,hdl2⟩:∃dl,dl=rdel l D ⟨n,wv,b,o⟩:=⟨_,rfl⟩
          rw [←hdl2] at hd0 hd1 hdl HStp;have HPu:=Lib.hid (fun w=>put9_calls dl b w hd0 hd1)
          have HAd:=Lib.hid (fun f w=>adapt9_calls dl ((D:Int)+1) f w hd0 hd1 (by omega) (by omega))
          have hps:=(putS_len dl b).2;have HAp:=Lib.hid (HSo.out (putS dl b))
          have z1:(strOfNums (putS dl b)).size≤12:=by rw [str_size];exact hps
          obtain ⟨f,hf⟩:∃f:Bool,(D==(low l).length)=f:=⟨_,rfl⟩
          have hf2:((D:Int)==((low l).length:Int))=f:=by rw [←hf,Bool.eq_iff_iff];simp;omega
          rw [hf] at HStp;have m0:0≤(x-n)*((D:Int)+1):=Int.mul_nonneg (by omega) (by omega)
          have m1:(x-n)*((D:Int)+1)≤(x-n)*61:=Int.mul_le_mul_of_nonneg_left (by omega) (by omega)
          have w1:IntKind.u32.wrap (x-n)=x-n:=by rw [IntKind.wrap_u32];omega
          have w2:IntKind.u64.wrap (x-n)=x-n:=by rw [IntKind.wrap_u64];omega
          have w3:IntKind.u64.wrap ((D:Int)+1)=(D:Int)+1:=by rw [IntKind.wrap_u64];omega
          have w4:IntKind.u64.wrap ((x-n)*((D:Int)+1))=(x-n)*((D:Int)+1):=by rw [IntKind.wrap_u64];omega
          have w5:IntKind.u64.wrap (pc:Int)=pc:=by rw [IntKind.wrap_u64];omega
          have w6:IntKind.u64.wrap ((x-n)*((D:Int)+1)+(pc:Int))=(x-n)*((D:Int)+1)+(pc:Int):=by rw [IntKind.wrap_u64];omega
          have w7:IntKind.u64.wrap wv=wv:=by rw [IntKind.wrap_u64];omega
          have w8:IntKind.u64.wrap ((x-n)*((D:Int)+1)+(pc:Int)-wv)=dl:=by rw [←hdl,IntKind.wrap_u64];omega
          have HDL:=Lib.hid hdl;clear hd0 hd1 hdl hdl2 m0 m1 hx1 hx0 hxs gna hps hf;go_wp2_with (first|(go_at_call 47;refine (HPu.out _).mono ?_;rintro e w9 ⟨rfl,rfl⟩)|(go_at_call 48;refine (HAd.out _ _).mono ?_;rintro e w9 ⟨rfl,rfl⟩))
          go_roundw
          case rel=>exact ⟨t+1,D+1,by have:=HDt.out;omega,hlt,by rw [HNx.out,HStp.out,←HAp.out],by rw [HNx.out,HStp.out],by rw [HNx.out,HStp.out],by rw [HNx.out,HStp.out],by go_num,HBk.out⟩
          case measure=>simp [intOf];omega
     ·obtain rfl:D=l.length:=by omega
      have he:t=l.length-(low l).length:=by have:=HDt.out;omega
      have hrt:=HRt.out;rw [←he] at hrt;rw [hrt]
      clear he hrt;go_wp2_with fail;go_ret;exact ⟨rfl,HB.out⟩
end Ref
end Go.Proofs.YtooiooledeblmaaGreat
