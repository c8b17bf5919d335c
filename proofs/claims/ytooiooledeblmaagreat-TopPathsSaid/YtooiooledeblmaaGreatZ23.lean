/- Plain lemmas on the expander's machine. What the compressor writes is read as it was; plain. What is written are bytes; plain. codec.Decode by SCSU. The document's bytes by UTF-8. The document's bytes by the inner text of UTF-EBCDIC. -/
import Derived.Test.YtooiooledeblmaaGreatZ20
set_option linter.unusedVariables false
set_option linter.unusedSimpArgs false
namespace Go.Proofs.YtooiooledeblmaaGreat
namespace Dec
open Go.RowKit Win Stp Mach Go.Proofs.YtooiooledeblmaaGreat.Lst
theorem steps_append {m m1 m2:M} {e e2:List Int} {ys:List Int}:∀{xs:List Int},steps m xs=some (m1,e)→steps m1 ys=some (m2,e2)→steps m (xs++ys)=some (m2,e++e2):=by
 intro xs
 induction xs generalizing m e with
 |nil=>
  intro h h2;simp only [steps,Option.some.injEq,Prod.mk.injEq] at h;obtain ⟨rfl,rfl⟩:=h;simpa using h2
 |cons x xs ih=>
  intro h h2;simp only [steps,List.cons_append] at h ⊢
  cases hx:Mach.step m x with
  |none=>rw [hx] at h;cases h
  |some r=>
   obtain ⟨m3,e3⟩:=r;rw [hx] at h;simp only at h ⊢
   cases hs:steps m3 xs with
   |none=>rw [hs] at h;cases h
   |some r=>
    obtain ⟨m4,e4⟩:=r;rw [hs] at h;simp only [Option.some.injEq,Prod.mk.injEq] at h;obtain ⟨rfl,rfl⟩:=h;rw [ih hs h2]
    simp
theorem sgl {m:M} {b:Int} (h:m.beg=0) (hu:m.uni=false):Mach.step m b=single m b:=by
 unfold Mach.step;rw [if_neg (by rw [h];simp),hu]
 rfl
theorem dbl {m:M} {b:Int} (h:m.beg=0) (hu:m.uni=true):Mach.step m b=double m b:=by
 unfold Mach.step;rw [if_neg (by rw [h];simp),if_pos hu]
theorem mor {m:M} {b:Int} (h:m.beg≠0):Mach.step m b=more m b:=by
 unfold Mach.step;rw [if_pos h]
theorem pass_no {b:Int} (h1:1≤b) (h2:b≤31) (h3:b≠9) (h4:b≠10) (h5:b≠13):¬pass b=true:=by
 unfold pass;simp;omega
theorem s_hi {m:M} {b:Int} (hu:m.upper=0) (hb:128≤b):single m b=some (m,[wAt m.o m.act+b-128]):=by
 unfold single;rw [if_neg (by rw [hu];simp;omega),if_pos hb]
theorem s_lay {m:M} {b:Int} (hu:m.upper=0) (h1:24≤b) (h2:b≤31):single m b=some (m.begin 2 (b-24),[]):=by
 unfold single;rw [if_neg (by rw [hu];simp;omega),if_neg (by omega),if_neg (pass_no (by omega) (by omega) (by omega) (by omega) (by omega)),if_pos h1]
theorem s_act {m:M} {b:Int} (hu:m.upper=0) (h1:16≤b) (h2:b≤23):single m b=some (m.activate (b-16),[]):=by
 unfold single;rw [if_neg (by rw [hu];simp;omega),if_neg (by omega),if_neg (pass_no (by omega) (by omega) (by omega) (by omega) (by omega)),if_neg (by omega),if_pos h1]
theorem s_15 {m:M} (hu:m.upper=0):single m 15=some ({m with uni:=true},[]):=by
 unfold single;rw [if_neg (by rw [hu];simp),if_neg (by omega),if_neg (pass_no (by omega) (by omega) (by omega) (by omega) (by omega)),if_neg (by omega),if_neg (by omega),if_pos rfl]
theorem s_quo {m:M} {b:Int} (hu:m.upper=0) (h1:1≤b) (h2:b≤8):single m b=some (m.begin 1 (b-1),[]):=by
 unfold single;rw [if_neg (by rw [hu];simp;omega),if_neg (by omega),if_neg (pass_no (by omega) (by omega) (by omega) (by omega) (by omega)),if_neg (by omega),if_neg (by omega),if_neg (by omega),if_neg (by omega),if_neg (by omega)]
theorem d_lay {m:M} {b:Int} (hu:m.upper=0) (h1:232≤b) (h2:b≤239):double m b=some (m.begin 2 (b-232),[]):=by
 unfold double;rw [if_neg (by omega),if_neg (by omega),if_neg (by rw [hu];simp;omega),if_neg (by omega),if_pos h1]
theorem d_act {m:M} {b:Int} (hu:m.upper=0) (h1:224≤b) (h2:b≤231):double m b=some (m.activate (b-224),[]):=by
 unfold double;rw [if_neg (by omega),if_neg (by omega),if_neg (by rw [hu];simp;omega),if_neg (by omega),if_neg (by omega)]
theorem m_quo {m:M} {b:Int} (h:m.beg=1) (hb:128≤b):more m b=some ({m with beg:=0},[wAt m.o m.n-128+b]):=by
 unfold more;rw [if_pos h,if_pos hb]
theorem m_lay {m:M} {b:Int} (h:m.beg=2):more m b=if (wOffset b).2=true then some (({m with o:=m.o.set m.n.toNat (wOffset b).1}:M).activate m.n,[]) else none:=by
 unfold more;rw [if_neg (by rw [h];decide),if_pos h]
end Dec
namespace Enc
open Go.RowKit Win Stp Go.Proofs.YtooiooledeblmaaGreat.Lst
open Mach (M low8)
open Dec (steps steps_append m0 sgl dbl mor s_hi s_lay s_act s_15 s_quo d_lay d_act m_quo m_lay)
def isS (c:Int):Bool:= !(decide (55296≤c)&&decide (c≤57343))&&decide (c≤1114111)
theorem isS_iff {c:Int}:isS c=true↔¬(55296≤c∧c≤57343)∧c≤1114111:=by
 unfold isS;simp;omega
def totalM (e:E) (cs:List Int):List Int:=(pushes e cs).2++(flushC (pushes e cs).1).2
theorem totalM_cons (e:E) (c:Int) (cs:List Int):totalM e (c::cs)=(pushC e c).2++totalM (pushC e c).1 cs:=by
 unfold totalM;simp only [pushes,List.append_assoc]
structure Mir (o:List Int) (uni:Bool) (act:Int) (m:M):Prop where
 o:m.o=o
 uni:m.uni=uni
 act:m.act=act
 beg:m.beg=0
 up:m.upper=0
def Back (m:M) (bs:List Int) (c:Int) (o:List Int) (uni:Bool) (act:Int):Prop:=∃m' e,steps m bs=some (m',e)∧e=[c]∧Mir o uni act m'
theorem steps_cons {m m1 m2:M} {x:Int} {e e2 xs:List Int} (h:Mach.step m x=some (m1,e)) (h2:steps m1 xs=some (m2,e2)):steps m (x::xs)=some (m2,e++e2):=by simp only [steps,h,h2]
theorem back_cons {m m1:M} {x c act:Int} {bs o:List Int} {uni:Bool} (h:Mach.step m x=some (m1,[])) (h2:Back m1 bs c o uni act):Back m (x::bs) c o uni act:=by
 obtain ⟨m',e,q1,q2,q3⟩:=h2;exact ⟨m',[]++e,steps_cons h q1,by simpa using q2,q3⟩
theorem back_one {m m1:M} {x c act:Int} {o:List Int} {uni:Bool} (h:Mach.step m x=some (m1,[c])) (h2:Mir o uni act m1):Back m [x] c o uni act:=⟨m1,[c]++[],steps_cons h rfl,by simp,h2⟩
theorem st_six {m:M} (hb:m.beg=6) (x:Int):Mach.step m x=some (Mach.whole m (m.first*256+x)):=by
 rw [mor (by rw [hb];decide)]
 unfold Mach.more;rw [hb,if_neg (by decide),if_neg (by decide),if_neg (by decide),if_neg (by decide),if_neg (by decide)]
theorem wh_up {m:M} {u:Int} (h:m.upper≠0):Mach.whole m u=({m with beg:=0,upper:=0},[65536+m.upper%1024*1024+u%1024]):=by unfold Mach.whole;rw [if_pos h]
theorem wh_hi {m:M} {u:Int} (h:m.upper=0) (hs:55296≤u∧u<56320):Mach.whole m u=({m with beg:=0,upper:=u},[]):=by unfold Mach.whole;rw [if_neg (by simpa using h),if_pos hs]
theorem wh_lo {m:M} {u:Int} (h:m.upper=0) (hs:¬(55296≤u∧u<56320)):Mach.whole m u=({m with beg:=0},[u]):=by unfold Mach.whole;rw [if_neg (by simpa using h),if_neg hs]
theorem d_first {m:M} {b:Int} (hb:m.beg=0) (hu:m.uni=true) (hr:b<224∨242<b) (hf:m.fits b=true):Mach.step m b=some (({m with first:=b}:M).begin 6 0,[]):=by
 rw [dbl hb hu]
 unfold Mach.double;rw [if_pos hr,if_pos hf]
theorem st_five {m:M} {b:Int} (hb:m.beg=5) (hf:m.fits b=true):Mach.step m b=some (({m with first:=b}:M).begin 6 0,[]):=by
 rw [mor (by rw [hb];decide)]
 unfold Mach.more;rw [hb,if_neg (by decide),if_neg (by decide),if_neg (by decide),if_neg (by decide),if_pos rfl,if_pos hf]
theorem d_240 {m:M} (hb:m.beg=0) (hu:m.uni=true):Mach.step m 240=some (m.begin 5 0,[]):=by
 rw [dbl hb hu]
 unfold Mach.double;rw [if_neg (by decide),if_pos rfl]
theorem s_14 {m:M} (hb:m.beg=0) (hu:m.uni=false):Mach.step m 14=some (m.begin 5 0,[]):=by
 rw [sgl hb hu]
 unfold Mach.single;rw [if_neg (by simp),if_neg (by decide),if_neg (by decide),if_neg (by decide),if_neg (by decide),if_neg (by decide),if_pos rfl]
theorem s_11 {m:M} (hb:m.beg=0) (hu:m.uni=false) (hup:m.upper=0):Mach.step m 11=some (m.begin 3 0,[]):=by
 rw [sgl hb hu]
 unfold Mach.single;rw [if_neg (by rw [hup];simp),if_neg (by decide),if_neg (by decide),if_neg (by decide),if_neg (by decide),if_neg (by decide),if_neg (by decide),if_pos rfl]
theorem d_241 {m:M} (hb:m.beg=0) (hu:m.uni=true) (hup:m.upper=0):Mach.step m 241=some (m.begin 3 0,[]):=by
 rw [dbl hb hu]
 unfold Mach.double;rw [if_neg (by decide),if_neg (by decide),if_neg (by rw [hup];simp),if_pos rfl]
theorem fits_lo {m:M} {b:Int} (hup:m.upper=0) (hb:b<220∨223<b):m.fits b=true:=by
 unfold M.fits low8;rw [hup]
 simp;omega
theorem fits_up {m:M} {b:Int} (hup:m.upper≠0) (hb:220≤b∧b≤223):m.fits b=true:=by
 unfold M.fits low8;have h1:decide (m.upper≠0)=true:=by simpa using hup
 rw [h1]
 simp;omega
theorem back_unit {m:M} {c act:Int} {o:List Int} {uni:Bool} (hb:m.beg=6) (hf:m.first=c/256) (hup:m.upper=0) (hs:isS c=true) (ho:m.o=o) (hu:m.uni=uni) (ha:m.act=act):Back m [c%256] c o uni act:=by
 rw [isS_iff] at hs;have h1:=st_six hb (c%256)
 rw [show m.first*256+c%256=c by rw [hf];omega,wh_lo hup (by omega)] at h1;exact back_one h1 ⟨ho,hu,ha,rfl,hup⟩
theorem units_back {m:M} {c act:Int} {o:List Int} (h:Mir o true act m) (h0:0≤c) (hs:isS c=true):Back m (unitsC c) c o true act:=by
 have hs2:=isS_iff.1 hs;unfold unitsC
 by_cases hc:65536≤c
 ·rw [if_pos hc]
  obtain ⟨a,ha⟩:∃a,a=55296+(c-65536)/1024:=⟨_,rfl⟩
  obtain ⟨b,hb⟩:∃b,b=56320+(c-65536)%1024:=⟨_,rfl⟩
  rw [←ha,←hb]
  have e1:=d_first (b:=a/256) h.beg h.uni (by omega) (fits_lo h.up (by omega))
  have e2:=st_six (m:=({m with first:=a/256}:M).begin 6 0) rfl (a%256)
  rw [show (({m with first:=a/256}:M).begin 6 0).first*256+a%256=a by show a/256*256+a%256=a;omega,wh_hi (show (({m with first:=a/256}:M).begin 6 0).upper=0 from h.up) (by omega)] at e2;refine back_cons e1 (back_cons e2 ?_)
  have ha0:a≠0:=by omega
  have e3:=d_first (m:=({(({m with first:=a/256}:M).begin 6 0) with beg:=0,upper:=a}:M)) (b:=b/256) rfl h.uni (by omega) (fits_up (by show a≠0;exact ha0) (by omega))
  refine back_cons e3 ?_;have e4:=st_six (m:=({({(({m with first:=a/256}:M).begin 6 0) with beg:=0,upper:=a}:M) with first:=b/256}:M).begin 6 0) rfl (b%256)
  rw [wh_up (show (({({(({m with first:=a/256}:M).begin 6 0) with beg:=0,upper:=a}:M) with first:=b/256}:M).begin 6 0).upper≠0 from ha0)] at e4;have e5:65536+a%1024*1024+(b/256*256+b%256)%1024=c:=by omega
  refine back_one (m1:={(({({(({m with first:=a/256}:M).begin 6 0) with beg:=0,upper:=a}:M) with first:=b/256}:M).begin 6 0) with beg:=0,upper:=0}) ?_ ⟨h.o,h.uni,h.act,rfl,rfl⟩
  rw [e4]
  show some (_,[65536+a%1024*1024+(b/256*256+b%256)%1024])=_
  rw [e5]
 ·rw [if_neg hc]
  cases ht:tagB c with
  |true=>
   rw [if_pos rfl]
   have ht2:57344≤c∧c≤62207:=by unfold tagB at ht;simpa using ht
   refine back_cons (d_240 h.beg h.uni) (back_cons (st_five (m:=m.begin 5 0) (b:=c/256) rfl (fits_lo (show (m.begin 5 0).upper=0 from h.up) (by omega))) ?_)
   exact back_unit rfl rfl h.up hs h.o h.uni h.act
  |false=>
   rw [if_neg (by simp)]
   have ht2:¬(57344≤c∧c≤62207):=by unfold tagB at ht;intro hh;simp [hh.1,hh.2] at ht
   refine back_cons (d_first (b:=c/256) h.beg h.uni (by omega) (fits_lo h.up (by omega))) ?_;exact back_unit rfl rfl h.up hs h.o h.uni h.act
theorem s_pass {m:M} {b:Int} (hb:m.beg=0) (hu:m.uni=false) (hup:m.upper=0) (h:passB b=true):Mach.step m b=some (m,[b]):=by
 rw [passB_iff] at h;rw [sgl hb hu]
 unfold Mach.single;rw [if_neg (by rw [hup];simp;omega),if_neg (by omega),if_pos]
 unfold Mach.pass;simp only [Bool.or_eq_true,decide_eq_true_eq]
 omega
theorem m_lo {m:M} {b:Int} (h:m.beg=1) (hb:¬128≤b):Mach.more m b=some ({m with beg:=0},[(wStatic m.n).1+b]):=by
 unfold Mach.more;rw [if_pos h,if_neg hb]
theorem simple_back {e:E} {m:M} {c:Int} {bs:List Int} (h:Mir e.o false e.act m) (h0:0≤c) (hs:simpleC e c=some bs):Back m bs c e.o false e.act:=by
 unfold simpleC at hs
 split at hs
 ·injection hs with hs;subst hs
  exact back_one (s_pass h.beg h.uni h.up ‹_›) h
 ·split at hs
  ·injection hs with hs;subst hs
   rename_i h32;refine back_cons (m1:=m.begin 1 0) (by rw [sgl h.beg h.uni,s_quo h.up (by decide) (by decide)];rfl) ?_;have h1:Mach.step (m.begin 1 0) c=some ({(m.begin 1 0) with beg:=0},[c]):=by
    rw [mor (by unfold M.begin;simp),m_lo rfl (by omega)]
    show some (_,[0+c])=_
    rw [Int.zero_add]
   exact back_one h1 ⟨h.o,h.uni,h.act,rfl,h.up⟩
  ·split at hs
   ·injection hs with hs;subst hs
    rename_i hh;rw [hld_iff] at hh;refine back_one (m1:=m) ?_ h;rw [sgl h.beg h.uni,s_hi h.up (by omega),h.o,h.act]
    congr 3
    omega
   ·cases hs
theorem lay_end {m:M} {o:List Int} {act c off:Int} (h:Mir o false act m) (hw:wAt o act=off) (hh:off≤c∧c-off<128):Back m [128+c-off] c o false act:=by
 refine back_one (m1:=m) ?_ h;rw [sgl h.beg h.uni,s_hi h.up (by omega),h.o,h.act,hw]
 congr 3
 omega
theorem st_two {m:M} {b:Int} (hb:m.beg=2) (ho:(wOffset b).2=true):Mach.step m b=some (({m with o:=m.o.set m.n.toNat (wOffset b).1}:M).activate m.n,[]):=by
 rw [mor (by rw [hb];decide),m_lay hb,if_pos ho]
theorem st_three {m:M} {b:Int} (hb:m.beg=3):Mach.step m b=some ({m with first:=b,beg:=4},[]):=by
 rw [mor (by rw [hb];decide)]
 unfold Mach.more;rw [if_neg (by rw [hb];decide),if_neg (by rw [hb];decide),if_pos hb]
theorem st_four {m:M} {b:Int} (hb:m.beg=4):Mach.step m b=some (({m with o:=m.o.set (m.first/32).toNat (65536+128*(m.first%32*256+b))}:M).activate (m.first/32),[]):=by
 rw [mor (by rw [hb];decide)]
 unfold Mach.more;rw [if_neg (by rw [hb];decide),if_neg (by rw [hb];decide),if_neg (by rw [hb];decide),if_pos hb]
theorem lay_back {e:E} {m:M} {c ix pr:Int} (hG:EG e) (hmo:m.o=e.o) (hup:m.upper=0) (h0:0≤c) (h1:c≤1114111) (ho:(ownC c).2=true)
  (hix:∀n:Int,0≤n→n<8→Mach.step m (ix+n)=some (m.begin 2 n,[])) (hpr:Mach.step m pr=some (m.begin 3 0,[])):Back m (layE e c ix pr) c (layM e c).o false (layM e c).act:=by
 obtain ⟨n0,n8⟩:=old_rng hG;have hlo:=hG.lo;have hh:=hld_iff.1 (own_hld h0 ho)
 unfold layE layM;obtain ⟨n,hn⟩:∃n,n=oldC e:=⟨_,rfl⟩
 rw [←hn] at n0 n8 ⊢
 by_cases hc:65536≤c
 ·have hp:wPair n c=(n*32+(c-65536)/128/256,(c-65536)/128%256,true):=by unfold wPair;rw [if_pos ⟨n0,n8,hc,h1⟩]
  have how:(ownC c).1=c/128*128:=by unfold ownC;rw [if_pos hc]
  rw [hp,if_pos rfl]
  rw [how] at hh ⊢;refine back_cons hpr (back_cons (st_three (m:=m.begin 3 0) rfl) (back_cons (st_four (m:={(m.begin 3 0) with first:=n*32+(c-65536)/128/256,beg:=4}) rfl) ?_))
  have e1:(n*32+(c-65536)/128/256)/32=n:=by omega
  have e2:65536+128*((n*32+(c-65536)/128/256)%32*256+(c-65536)/128%256)=c/128*128:=by omega
  refine lay_end ⟨?_,rfl,e1,rfl,hup⟩ (wAt_set2 n0 n8 hlo) hh
  show m.o.set ((n*32+(c-65536)/128/256)/32).toNat (65536+128*((n*32+(c-65536)/128/256)%32*256+(c-65536)/128%256))=_
  rw [e1,e2,hmo]
 ·have hp:(wPair n c).2.2=false:=by unfold wPair;rw [if_neg (by omega)]
  have hoc:ownC c=((wOffset (wIndex c).1).1,(wIndex c).2):=by unfold ownC;rw [if_neg hc]
  rw [hp,if_neg (by simp)]
  rw [hoc] at ho hh ⊢;have hio:=(index_own h0 ho).2;refine back_cons (hix n n0 n8) (back_cons (st_two (m:=m.begin 2 n) rfl hio) ?_)
  refine lay_end ⟨?_,rfl,rfl,rfl,hup⟩ (wAt_set2 n0 n8 hlo) hh
  show m.o.set n.toNat (wOffset (wIndex c).1).1=_
  rw [hmo]
theorem static_eq {c:Int} (h:(staticC c).2.2=true):(wStatic (staticC c).1).1=(staticC c).2.1:=by
 have hs:=static_spec h;unfold staticC at hs ⊢
 by_cases hf:(findFrom c 1 (statics.drop 1)).2=true
 ·rw [if_pos hf] at hs ⊢
  simp only at hs ⊢;unfold wStatic;rw [if_pos (by omega)]
 ·unfold staticC at h
  rw [if_neg hf] at h
  cases h
theorem single_back {e:E} {m:M} {c d:Int} (hG:EG e) (h:Mir e.o false e.act m) (heu:e.uni=false) (h0:0≤c) (hs:isS c=true):Back m (singleC e c d).2 c (singleC e c d).1.o (singleC e c d).1.uni (singleC e c d).1.act:=by
 have hs2:=isS_iff.1 hs;unfold singleC
 cases hsi:simpleC e c with
 |some bs=>
  simp only;rw [heu]
  exact simple_back h h0 hsi
 |none=>
  simp only
  by_cases hf:(wFind e.o c).2=true
  ·rw [if_pos hf]
   obtain ⟨f0,f8,fh⟩:=find_spec hG hf;rw [hld_iff] at fh;generalize (wFind e.o c).1=n at f0 f8 fh ⊢
   split
   ·have e1:Mach.step m (16+n)=some (m.activate n,[]):=by
     rw [sgl h.beg h.uni,s_act h.up (by omega) (by omega),show 16+n-16=n by omega]
    show Back m _ c e.o e.uni n
    rw [heu]
    exact back_cons e1 (lay_end ⟨h.o,rfl,rfl,rfl,h.up⟩ rfl fh)
   ·have e1:Mach.step m (1+n)=some (m.begin 1 n,[]):=by
     rw [sgl h.beg h.uni,s_quo h.up (by omega) (by omega),show 1+n-1=n by omega]
    show Back m _ c e.o e.uni e.act
    rw [heu]
    refine back_cons e1 (back_one (m1:={(m.begin 1 n) with beg:=0}) ?_ ⟨h.o,h.uni,h.act,rfl,h.up⟩)
    rw [mor (by unfold M.begin;simp),m_quo rfl (by omega)]
    show some (_,[wAt m.o n-128+(128+c-wAt e.o n)])=_
    rw [h.o]
    congr 3
    omega
  ·rw [if_neg hf]
   split
   ·rename_i hst
    simp only [Bool.and_eq_true] at hst;obtain ⟨s0,s8,s1,s2,s3⟩:=static_spec hst.2;have heq:=static_eq hst.2;rw [hld_iff] at s3;generalize (staticC c).1=n at s0 s8 heq ⊢;generalize (staticC c).2.1=off at s1 s2 s3 heq ⊢;have e1:Mach.step m (1+n)=some (m.begin 1 n,[]):=by
     rw [sgl h.beg h.uni,s_quo h.up (by omega) (by omega),show 1+n-1=n by omega]
    show Back m _ c e.o e.uni e.act
    rw [heu]
    refine back_cons e1 (back_one (m1:={(m.begin 1 n) with beg:=0}) ?_ ⟨h.o,h.uni,h.act,rfl,h.up⟩)
    rw [mor (by unfold M.begin;simp),m_lo rfl (by omega)]
    show some (_,[(wStatic n).1+(c-off)])=_
    rw [heq]
    congr 3
    omega
   ·split
    ·rename_i hst htw
     have hown:(ownC c).2=true:=by
      simp only [Bool.or_eq_true,Bool.and_eq_true,decide_eq_true_eq] at htw;rcases htw with h1|h1
      ·exact own_of_twins h1
      ·exact own_of_big h1.1
     refine lay_back hG h.o h.up h0 hs2.2 hown (fun n n0 n8=>?_) (s_11 h.beg h.uni h.up)
     rw [sgl h.beg h.uni,s_lay h.up (by omega) (by omega),show 24+n-24=n by omega]
    ·split
     ·rename_i hq
      simp only [Bool.and_eq_true,decide_eq_true_eq] at hq
      show Back m _ c e.o e.uni e.act
      rw [heu]
      refine back_cons (s_14 h.beg h.uni) (back_cons (st_five (m:=m.begin 5 0) (b:=c/256) rfl (fits_lo (show (m.begin 5 0).upper=0 from h.up) (by omega))) ?_)
      exact back_unit rfl rfl h.up hs h.o h.uni h.act
     ·exact back_cons (m1:={m with uni:=true}) (by rw [sgl h.beg h.uni,s_15 h.up]) (units_back ⟨h.o,rfl,h.act,h.beg,h.up⟩ h0 hs)
theorem easy_simple {e:E} {c:Int} (hG:EG e) (he:easyB e.o c=true):∃bs,simpleC (backC e c) c=some bs:=by
 unfold easyB at he;unfold simpleC
 by_cases hp:passB c=true
 ·exact ⟨_,if_pos hp⟩
 ·rw [if_neg hp]
  by_cases h32:c<32
  ·exact ⟨_,if_pos h32⟩
  ·rw [if_neg h32]
   have hf:(wFind e.o c).2=true:=by
    rw [Bool.or_eq_true,decide_eq_true_eq] at he;rcases he with h|h
    ·exact h
    ·exact absurd (passB_iff.2 (.inl ⟨by omega,h⟩)) hp
   have ha:(backC e c).act=(wFind e.o c).1:=if_pos hf;rw [ha]
   exact ⟨_,if_pos (find_spec hG hf).2.2⟩
theorem work_back {e:E} {m:M} {c d:Int} (hG:EG e) (h:Mir e.o e.uni e.act m) (hb:e.beh=false→e.uni=false) (h0:0≤c) (hs:isS c=true):
  Back m (workC e c d).2 c (workC e c d).1.o (workC e c d).1.uni (workC e c d).1.act:=by
 have hs2:=isS_iff.1 hs;have hG2:EG {e with beh:=true}:=hG.same rfl rfl rfl;unfold workC
 split
 ·rename_i hm
  simp only [Bool.and_eq_true,Bool.not_eq_true',beq_iff_eq] at hm;obtain ⟨hm1,rfl⟩:=hm;have hu:=hb hm1
  show Back m [14,254,255] 65279 e.o e.uni e.act
  rw [hu] at h ⊢;refine back_cons (s_14 h.beg h.uni) (back_cons (st_five (m:=m.begin 5 0) (b:=254) rfl (fits_lo (show (m.begin 5 0).upper=0 from h.up) (by decide))) ?_)
  exact back_unit (c:=65279) rfl rfl h.up hs h.o h.uni h.act
 ·split
  ·rename_i hpl
   split
   ·rename_i hu
    show Back m (unitsC c) c e.o e.uni e.act
    rw [hu] at h ⊢;exact units_back h h0 hs
   ·rename_i hu
    have hu2:e.uni=false:=by simpa using hu
    rw [hu2] at h
    cases hsi:simpleC {e with beh:=true} c with
    |some bs=>
     show Back m bs c e.o e.uni e.act
     rw [hu2]
     exact simple_back (e:={e with beh:=true}) h h0 hsi
    |none=>
     show Back m (15::unitsC c) c e.o true e.act
     exact back_cons (m1:={m with uni:=true}) (by rw [sgl h.beg h.uni,s_15 h.up]) (units_back ⟨h.o,rfl,h.act,h.beg,h.up⟩ h0 hs)
  ·split
   ·rename_i hu
    have h2:=h;rw [hu] at h2;exact single_back (e:={e with beh:=true}) hG2 h2 hu h0 hs
   ·rename_i hu
    have hu2:e.uni=true:=by simpa using hu
    have h2:=h;rw [hu2] at h2
    split
    ·rename_i he
     simp only [Bool.and_eq_true] at he;obtain ⟨bs,hbs⟩:=easy_simple hG he.1;rw [hbs]
     have hba:=(hG.back (c:=c)).act
     show Back m ((224+(backC e c).act)::bs) c (backC e c).o false (backC e c).act
     have e1:Mach.step m (224+(backC e c).act)=some (m.activate (backC e c).act,[]):=by
      rw [dbl h2.beg h2.uni,d_act h2.up (by omega) (by omega),show 224+(backC e c).act-224=(backC e c).act by omega]
     exact back_cons e1 (simple_back (e:=backC e c) ⟨h2.o,rfl,rfl,rfl,h2.up⟩ h0 hbs)
    ·split
     ·rename_i htw
      refine lay_back hG2 h2.o h2.up h0 hs2.2 (own_of_twins htw) (fun n n0 n8=>?_) (d_241 h2.beg h2.uni h2.up)
      rw [dbl h2.beg h2.uni,d_lay h2.up (by omega) (by omega),show 232+n-232=n by omega]
     ·show Back m (unitsC c) c e.o e.uni e.act
      rw [hu2]
      exact units_back h2 h0 hs
theorem single_beh (e:E) (c d:Int):(singleC e c d).1.beh=e.beh:=by
 unfold singleC layM
 split
 ·rfl
 ·repeat' split
  all_goals rfl
theorem work_behind (e:E) (c d:Int):(workC e c d).1.beh=true:=by
 unfold workC layM backC
 repeat' split
 all_goals first
  |rfl
  |exact single_beh _ _ _
def readAll (e:E) (cs:List Int):List Int:=if e.wt=2147483648 then cs else e.wt::cs
theorem total_back:∀{cs:List Int} {e:E} {m:M},EG e→Mir e.o e.uni e.act m→(e.beh=false→e.uni=false)→(e.wt=2147483648∨0≤e.wt∧isS e.wt=true)→(∀x∈cs,0≤x∧isS x=true)→
  ∃m' out,steps m (totalM e cs)=some (m',out)∧out=readAll e cs∧m'.beg=0∧m'.upper=0
 |[],e,m,hG,h,hb,hw,_=>by
  unfold readAll
  by_cases hn:e.wt=2147483648
  ·have hfl:flushC e=(e,[]):=by unfold flushC;rw [if_pos hn]
   show ∃m' out,steps m ([]++(flushC e).2)=_∧_
   rw [hfl,if_pos hn]
   exact ⟨m,[],rfl,rfl,h.beg,h.up⟩
  ·obtain ⟨w0,ws⟩:=hw.resolve_left hn
   have hfl:(flushC e).2=(workC e e.wt 2147483648).2:=by unfold flushC;rw [if_neg hn]
   obtain ⟨m',out,q1,q2,q3⟩:=work_back (d:=2147483648) hG h hb w0 ws
   show ∃m' out,steps m ([]++(flushC e).2)=_∧_
   rw [hfl,if_neg hn]
   exact ⟨m',out,q1,q2,q3.beg,q3.up⟩
 |c::cs,e,m,hG,h,hb,hw,ha=>by
  have hc:=ha c List.mem_cons_self;have hc2:=isS_iff.1 hc.2;have hne:c≠2147483648:=by omega
  rw [totalM_cons]
  unfold readAll
  by_cases hn:e.wt=2147483648
  ·have hpc:pushC e c=({e with wt:=c},[]):=by unfold pushC;rw [if_pos hn]
   rw [hpc,if_pos hn]
   obtain ⟨m',out,q1,q2,q3,q4⟩:=total_back (cs:=cs) (e:={e with wt:=c}) (m:=m) (hG.same rfl rfl rfl) h hb (.inr hc) (fun x hx=>ha x (List.mem_cons_of_mem _ hx))
   refine ⟨m',out,q1,?_,q3,q4⟩
   rw [q2]
   unfold readAll;rw [if_neg (show ¬c=2147483648 from hne)]
  ·obtain ⟨w0,ws⟩:=hw.resolve_left hn
   have hpc:pushC e c=({(workC e e.wt c).1 with wt:=c},(workC e e.wt c).2):=by unfold pushC;rw [if_neg hn]
   rw [hpc,if_neg hn]
   obtain ⟨m1,o1,q1,q2,q3⟩:=work_back (d:=c) hG h hb w0 ws;have hws:=isS_iff.1 ws;obtain ⟨m',out,p1,p2,p3,p4⟩:=total_back (cs:=cs) (e:={(workC e e.wt c).1 with wt:=c}) (m:=m1) ((hG.work w0 hws.2).same rfl rfl rfl) q3 (fun hh=>by rw [show ({(workC e e.wt c).1 with wt:=c}:E).beh=true from work_behind _ _ _] at hh;cases hh) (.inr hc) (fun x hx=>ha x (List.mem_cons_of_mem _ hx))
   refine ⟨m',o1++out,steps_append q1 p1,?_,p3,p4⟩
   rw [p2,q2]
   unfold readAll;rw [if_neg (show ¬c=2147483648 from hne)]
   rfl
theorem text_back (pl:Bool) {l:List Int} (ha:∀x∈l,0≤x∧isS x=true):∃m',steps m0 (textC pl l)=some (m',l)∧m'.beg=0∧m'.upper=0:=by
 obtain ⟨m',out,q1,q2,q3,q4⟩:=total_back (cs:=l) (e:=e0 pl) (m:=m0) (eg0 pl) ⟨rfl,rfl,rfl,rfl,rfl⟩ (fun _=>rfl) (.inl rfl) ha;refine ⟨m',?_,q3,q4⟩
 have:out=l:=q2;rw [this] at q1;exact q1
end Enc
namespace Enc
open Go.RowKit Win Stp Go.Proofs.YtooiooledeblmaaGreat.Lst
def Rg (bs:List Int):Prop:=∀x∈bs,0≤x∧x≤255
theorem rg_nil:Rg []:=fun x hx=>by cases hx
theorem rg_cons {x:Int} {bs:List Int} (h:0≤x∧x≤255) (h2:Rg bs):Rg (x::bs):=fun y hy=>by
 rcases List.mem_cons.1 hy with rfl|hy
 ·exact h
 ·exact h2 y hy
theorem rg_append {a b:List Int} (h:Rg a) (h2:Rg b):Rg (a++b):=fun y hy=>by
 rcases List.mem_append.1 hy with hy|hy
 ·exact h y hy
 ·exact h2 y hy
theorem units_rg {c:Int} (h0:0≤c) (h1:c≤1114111):Rg (unitsC c):=by
 unfold unitsC
 split
 ·exact rg_cons (by omega) (rg_cons (by omega) (rg_cons (by omega) (rg_cons (by omega) rg_nil)))
 ·refine rg_append ?_ (rg_cons (by omega) (rg_cons (by omega) rg_nil))
  split
  ·exact rg_cons (by omega) rg_nil
  ·exact rg_nil
theorem simple_rg {e:E} {c:Int} {bs:List Int} (h0:0≤c) (hs:simpleC e c=some bs):Rg bs:=by
 unfold simpleC at hs
 split at hs
 ·rename_i hp
  rw [passB_iff] at hp;injection hs with hs;subst hs
  exact rg_cons (by omega) rg_nil
 ·split at hs
  ·injection hs with hs;subst hs
   exact rg_cons (by omega) (rg_cons (by omega) rg_nil)
  ·split at hs
   ·rename_i hh
    rw [hld_iff] at hh;injection hs with hs;subst hs
    exact rg_cons (by omega) rg_nil
   ·cases hs
theorem lay_rg {e:E} {c ix pr:Int} (hG:EG e) (h0:0≤c) (h1:c≤1114111) (ho:(ownC c).2=true) (i0:0≤ix∧ix≤240) (p0:0≤pr∧pr≤255):Rg (layE e c ix pr):=by
 obtain ⟨n0,n8⟩:=old_rng hG;have hh:=hld_iff.1 (own_hld h0 ho)
 have hx:=idx_rng h0 (by omega:c≤4294967295)
 unfold layE;generalize oldC e=n at n0 n8 ⊢;refine rg_append ?_ (rg_cons (by omega) rg_nil)
 by_cases hc:65536≤c
 ·have hp:wPair n c=(n*32+(c-65536)/128/256,(c-65536)/128%256,true):=by unfold wPair;rw [if_pos ⟨n0,n8,hc,h1⟩]
  rw [hp,if_pos rfl]
  refine rg_cons p0 (rg_cons ?_ (rg_cons ?_ rg_nil)) <;>(simp only;omega)
 ·have hp:(wPair n c).2.2=false:=by unfold wPair;rw [if_neg (by omega)]
  rw [hp,if_neg (by simp)]
  exact rg_cons (by omega) (rg_cons hx rg_nil)
theorem single_rg {e:E} {c d:Int} (hG:EG e) (h0:0≤c) (h1:c≤1114111):Rg (singleC e c d).2:=by
 unfold singleC
 cases hs:simpleC e c with
 |some bs=>exact simple_rg h0 hs
 |none=>
  simp only
  by_cases hf:(wFind e.o c).2=true
  ·rw [if_pos hf]
   obtain ⟨f0,f8,fh⟩:=find_spec hG hf;rw [hld_iff] at fh
   split
   ·exact rg_cons (by omega) (rg_cons (by omega) rg_nil)
   ·exact rg_cons (by omega) (rg_cons (by omega) rg_nil)
  ·rw [if_neg hf]
   split
   ·rename_i hst
    simp only [Bool.and_eq_true] at hst;obtain ⟨s0,s8,s1,s2,s3⟩:=static_spec hst.2;rw [hld_iff] at s3;exact rg_cons (by omega) (rg_cons (by omega) rg_nil)
   ·split
    ·rename_i hst htw
     have hown:(ownC c).2=true:=by
      simp only [Bool.or_eq_true,Bool.and_eq_true,decide_eq_true_eq] at htw;rcases htw with h1|h1
      ·exact own_of_twins h1
      ·exact own_of_big h1.1
     exact lay_rg hG h0 h1 hown (by decide) (by decide)
    ·split
     ·rename_i hq
      simp only [Bool.and_eq_true,decide_eq_true_eq] at hq;exact rg_cons (by omega) (rg_cons (by omega) (rg_cons (by omega) rg_nil))
     ·exact rg_cons (by omega) (units_rg h0 h1)
theorem work_rg {e:E} {c d:Int} (hG:EG e) (h0:0≤c) (h1:c≤1114111):Rg (workC e c d).2:=by
 have hG2:EG {e with beh:=true}:=hG.same rfl rfl rfl;unfold workC
 split
 ·exact rg_cons (by decide) (rg_cons (by decide) (rg_cons (by decide) rg_nil))
 ·split
  ·split
   ·exact units_rg h0 h1
   ·cases hs:simpleC {e with beh:=true} c with
    |some bs=>exact simple_rg h0 hs
    |none=>exact rg_cons (by decide) (units_rg h0 h1)
  ·split
   ·exact single_rg hG2 h0 h1
   ·split
    ·have hba:=(hG.back (c:=c)).act
     refine rg_cons (by omega) ?_
     cases hs:simpleC (backC e c) c with
     |some bs=>exact simple_rg h0 hs
     |none=>exact rg_nil
    ·split
     ·rename_i htw
      exact lay_rg hG2 h0 h1 (own_of_twins htw) (by decide) (by decide)
     ·exact units_rg h0 h1
theorem total_rg:∀{cs:List Int} {e:E},EG e→(e.wt=2147483648∨0≤e.wt∧e.wt≤1114111)→(∀x∈cs,0≤x∧x≤1114111)→Rg (totalM e cs)
 |[],e,hG,hw,_=>by
  by_cases hn:e.wt=2147483648
  ·have hfl:flushC e=(e,[]):=by unfold flushC;rw [if_pos hn]
   show Rg ([]++(flushC e).2)
   rw [hfl]
   exact rg_nil
  ·have hfl:(flushC e).2=(workC e e.wt 2147483648).2:=by unfold flushC;rw [if_neg hn]
   have hw2:=hw.resolve_left hn
   show Rg ([]++(flushC e).2)
   rw [hfl]
   exact work_rg hG hw2.1 hw2.2
 |c::cs,e,hG,hw,ha=>by
  have hc:=ha c List.mem_cons_self;rw [totalM_cons]
  by_cases hn:e.wt=2147483648
  ·have hpc:pushC e c=({e with wt:=c},[]):=by unfold pushC;rw [if_pos hn]
   rw [hpc]
   exact total_rg (cs:=cs) (e:={e with wt:=c}) (hG.same rfl rfl rfl) (.inr hc) (fun y hy=>ha y (List.mem_cons_of_mem _ hy))
  ·have hpc:pushC e c=({(workC e e.wt c).1 with wt:=c},(workC e e.wt c).2):=by unfold pushC;rw [if_neg hn]
   have hw2:=hw.resolve_left hn;rw [hpc]
   exact rg_append (work_rg hG hw2.1 hw2.2) (total_rg (cs:=cs) (e:={(workC e e.wt c).1 with wt:=c}) ((hG.work hw2.1 hw2.2).same rfl rfl rfl) (.inr hc) (fun y hy=>ha y (List.mem_cons_of_mem _ hy)))
theorem text_rg (pl:Bool) {l:List Int} (ha:∀x∈l,0≤x∧x≤1114111):Rg (textC pl l):=total_rg (cs:=l) (e:=e0 pl) (eg0 pl) (.inl rfl) ha
end Enc
namespace Dcd
open Go.RowKit Win Stp Mach Dec Go.Proofs.YtooiooledeblmaaGreatW.PrintMore
theorem cell_keep {w w2:World} {g:Nat} (h:w2.heap[g]? =w.heap[g]?) (j:Nat):w2.cell? ⟨g,j,none⟩=w.cell? ⟨g,j,none⟩:=by
 unfold World.cell?;rw [show w2.heap[(⟨g,j,none⟩:Addr).block]? =w.heap[(⟨g,j,none⟩:Addr).block]? from h]
theorem fz_keep {w w2:World} {g:Nat} (h:w2.heap[g]? =w.heap[g]?) (j:Nat):w2.frozen? ⟨g,j,none⟩=w.frozen? ⟨g,j,none⟩:=by
 unfold World.frozen?;rw [show w2.heap[(⟨g,j,none⟩:Addr).block]? =w.heap[(⟨g,j,none⟩:Addr).block]? from h]
theorem base_keep {w w2:World} {g:Nat} {b:B4} (h:BaseAt w g b) (e:w2.heap[g]? =w.heap[g]?):BaseAt w2 g b:=
 ⟨(cell_keep e 0).trans h.c0,(cell_keep e 1).trans h.c1,(cell_keep e 2).trans h.c2,(cell_keep e 3).trans h.c3,fun j=>(fz_keep e j).trans (h.fz j)⟩
theorem over_cell {w:World} {g:Nat} {b:B4} (hB:BaseAt w g b) (h4:w.cell? ⟨g,4,none⟩=some nilS) (hb:b.going=false) (he:b.err=0) (hp:b.pl=0):OverD g w:=fun w2 h2=>by
 have hB2:=base_keep hB h2;refine ⟨?_,b,hB2,he,hp⟩
 have hg:=going_calls g b w2 hB2;have hh:=held_calls g 4 none 0 0 w2 ((cell_keep h2 4).trans h4)
 rw [hb] at hg;clear hB hB2 h4 h2 hb;go_enter Tryz.func228,Tryz.ntmps228;go_wp2_with (first|(go_at_call 143;refine hg.mono ?_;rintro e w1 ⟨rfl,rfl⟩)|(go_at_call 231;refine hh.mono ?_;rintro e w1 ⟨rfl,rfl⟩))
 go_ret;exact ⟨rfl,rfl⟩
theorem dispx:Disp 138 271 270:=
 ⟨fun _ _=>by kernel_rfl,fun _ _=>by kernel_rfl,fun _ _=>by kernel_rfl,fun _ _=>by kernel_rfl,fun _ _ _ _=>by kernel_rfl,fun _ _=>by kernel_rfl⟩
section
attribute [local go_sem] mkd_x
theorem newG_x {c:Int} (hc:c=9∨c=10) {s:ByteArray} {mE:M} {out:List Int} (hs:s.size≤100000) (hst:steps m0 (byt s)=some (mE,out)) (hl:out.length≤4000) (hm:mE.beg=0∧mE.upper=0) (w:World):
  Calls Tryz.prog 37 #[.int .i64 c] w (NewG 138 271 270 s out [] w):=by
 rcases hc with rfl|rfl
 all_goals
  go_enter Tryz.func37,Tryz.ntmps37;go_wp2_with fail;refine (newDecoder_calls _).mono ?_;rintro e w1 ⟨rfl,hd,hb,hz⟩
  go_wp2_with fail;go_ret2;refine ⟨w.heap.size+1,FS (w.heap.size+1) w.heap.size nilS,?_,by omega,by omega,rfl,hb,?_⟩
  ·intro i hi
   rcases hi with hi|hi|hi
   ·omega
   ·omega
   ·simp [Value.ownBlock] at hi
  ·intro wy hy
   have hdy:DecAt wy (w.heap.size+1) w.heap.size 0 nilS b40 [] m0:=hd.keep hy.size (hy.block _ hd.lt) (hy.block _ hd.win.lt) (fun k hk=>by simp [Value.ownBlock] at hk)
   refine (feed_calls s 4096 hdy good0 hs (by decide) (by decide)).mono ?_;rintro e w2 ⟨k,A,c,o,b',m',rfl,hd2,hc2,ho2,hf⟩
   obtain ⟨rfl,rfl,rfl,hgd,rfl⟩:=fed_whole hf hst rfl (by omega)
   rw [byt_length] at hd2 ⊢;refine ⟨A,c,rfl,hc2,told_own ho2,?_⟩
   intro w3 h3;have hd3:=hd2.keep h3.size (h3.block _ hd2.lt) (h3.block _ hd2.win.lt) (fun k hk=>by simp [Value.ownBlock] at hk)
   refine (end_calls hd3).mono ?_;rintro e w4 ⟨rfl,hd4,hc4⟩
   have he:endB {b40 with at_:=b40.at_+(s.size:Int)} m'={b40 with at_:=b40.at_+(s.size:Int),fin:=true}:=by
    unfold endB cutB;rw [if_neg (fun h=>h.1.elim (fun h=>h hm.1) (fun h=>h hm.2))]
    rfl
   rw [he] at hd4;exact ⟨rfl,hc4,fun _=>over_cell hd4.base hd4.c4 rfl rfl rfl,fun h=>absurd rfl h⟩
end
theorem decode_x {pl:Bool} {c:Int} (hc:c=9∨c=10) {l:List Int} (hl:l.length≤400) (hs:∀x∈l,0≤x∧Out.isB x=true) (w:World):Calls Tryz.prog 18 #[.int .i64 c,.string (strOfNums (Enc.textC pl l))] w (DecG w l):=by
 have hs1:∀x∈l,0≤x∧x≤1114111:=fun x hx=>⟨(hs x hx).1,(Out.isB_iff.1 (hs x hx).2).1⟩
 have hs2:∀x∈l,0≤x∧Enc.isS x=true:=fun x hx=>⟨(hs x hx).1,by have:=Out.isB_iff.1 (hs x hx).2;rw [Enc.isS_iff];omega⟩
 obtain ⟨mE,h1,h2,h3⟩:=Enc.text_back pl hs2;have hrg:=Enc.text_rg pl hs1;have hl1:(Enc.text1 pl l).length≤10*l.length:=Enc.pushes_len l (Enc.e0 pl)
 have hl2:(Enc.text2 pl l).length≤10:=Enc.flush_len _;have hlen:(Enc.textC pl l).length≤10*l.length+10:=by unfold Enc.textC;rw [List.length_append];omega
 have hsz:=Out.str_size (Enc.textC pl l)
 have h:=decode_any (w:=w) dispx (newG_x hc (s:=strOfNums (Enc.textC pl l)) (out:=l) (by rw [hsz];omega) (by rw [byt_nums hrg];exact h1) (by omega) ⟨h2,h3⟩) (by omega) (by simp) (by rw [hsz];omega)
 rwa [List.append_nil] at h
end Dcd
namespace Ref
open Go.RowKit Win Stp Go.Proofs.YtooiooledeblmaaGreat.Lst Out
def m6 (c:Int):Nat→List Int
 |0=>[]
 |j+1=>(128+c/64^j%64)::m6 c j
theorem m6_len (c:Int):∀j,(m6 c j).length=j
 |0=>rfl
 |j+1=>by unfold m6;rw [List.length_cons,m6_len c j]
theorem pow64 (x:Int) (j:Nat):x/64^(j+1)=x/64^j/64:=by
 rw [Int.pow_succ,Int.ediv_ediv_of_nonneg (Int.pow_nonneg (by decide))]
theorem div64_le {x B:Int} (h0:0≤x) (h1:x≤B):∀j:Nat,0≤x/64^j∧x/64^j≤B
 |0=>by simp;omega
 |j+1=>by
  have:=div64_le h0 h1 j;rw [pow64]
  omega
def Str (l:List Int) (w:World) (e:Ending) (w':World):Prop:=e= .returned (.string (strOfNums l))∧Below w.heap.size w w'
def R3Rel (w:World) (a t:Nat) (c:Int) (cv iv:Value) (wr:World):Prop:=
 ∃k j:Nat,k+j=t∧cv= .int .u32 (c/64^j)∧iv= .int .i64 k∧wr.heap[a]? =some (.cells (u8s (List.replicate (k+1) 0++m6 c j)).toArray 5 (0,0))∧Below w.heap.size w wr
theorem size3_calls (c:Int) (w:World):Calls Tryz.prog 78 #[.int .u32 c] w fun e w'=>e= .returned (.int .i64 (if c<128 then 1 else if c<2048 then 2 else if c<65536 then 3 else 4))∧w=w':=by
 by_cases h1:c<128
 ·rw [if_pos h1]
  go_enter Tryz.func78,Tryz.ntmps78;go_wp2;go_ret;exact ⟨rfl,rfl⟩
 ·rw [if_neg h1]
  by_cases h2:c<2048
  ·rw [if_pos h2]
   go_enter Tryz.func78,Tryz.ntmps78;go_wp2;go_ret;exact ⟨rfl,rfl⟩
  ·rw [if_neg h2]
   by_cases h3:c<65536
   ·rw [if_pos h3]
    go_enter Tryz.func78,Tryz.ntmps78;go_wp2;go_ret;exact ⟨rfl,rfl⟩
   ·rw [if_neg h3]
    go_enter Tryz.func78,Tryz.ntmps78;go_wp2;go_ret;exact ⟨rfl,rfl⟩
theorem uni8_m6 {c:Int} (h0:128≤c) (h1:c≤1114111):∃(t:Nat) (L:Int),uni8B c=(L+c/64^t)::m6 c t∧(if c<128 then (1:Int) else if c<2048 then 2 else if c<65536 then 3 else 4)=(t:Int)+1∧L+c/64^t≤255∧((t=1∧L=192)∨(t=2∧L=224)∨(t=3∧L=240)):=by
 by_cases k2:c<2048
 ·refine ⟨1,192,?_,by rw [if_neg (by omega),if_pos k2];rfl,by simp;omega,.inl ⟨rfl,rfl⟩⟩
  simp only [uni8B,m6,Int.pow_zero,Int.ediv_one,Int.pow_one]
  rw [if_neg (by omega),if_pos k2]
 ·by_cases k3:c<65536
  ·refine ⟨2,224,?_,by rw [if_neg (by omega),if_neg k2,if_pos k3];rfl,by simp only [show (64:Int)^2=4096 from rfl];omega,.inr (.inl ⟨rfl,rfl⟩)⟩
   simp only [uni8B,m6,Int.pow_zero,Int.ediv_one,Int.pow_one,show (64:Int)^2=4096 from rfl]
   rw [if_neg (by omega),if_neg k2,if_pos k3]
  ·refine ⟨3,240,?_,by rw [if_neg (by omega),if_neg k2,if_neg k3];rfl,by simp only [show (64:Int)^3=262144 from rfl];omega,.inr (.inr ⟨rfl,rfl⟩)⟩
   simp only [uni8B,m6,Int.pow_zero,Int.ediv_one,Int.pow_one,show (64:Int)^2=4096 from rfl,show (64:Int)^3=262144 from rfl]
   rw [if_neg (by omega),if_neg k2,if_neg k3]
set_option maxRecDepth 100000 in
set_option maxHeartbeats 4000000 in
theorem one3_calls (c:Int) (w:World) (h0:0≤c) (h1:c≤1114111):Calls Tryz.prog 42 #[.int .u32 c] w (Str (uni8B c) w):=by
 have HSz:=Lib.hid (size3_calls c w)
 by_cases k1:c<128
 ·rw [show uni8B c=[c] by unfold uni8B;rw [if_pos k1]]
  have hsz:=HSz.out;rw [if_pos k1] at hsz;have HS2:=Lib.hid hsz;clear hsz;have w1:IntKind.u8.wrap c=c:=by rw [IntKind.wrap_u8];omega
  have hcv:(convert 68 9 (.slice (some ⟨w.heap.size,0,none⟩) 1 1)).run Tryz.prog (w.alloc (.cells #[.int .u8 c] 5))= .ok (.string (strOfNums [c])) (w.alloc (.cells #[.int .u8 c] 5)):=conv_new w [c] 1 rfl;go_enter Tryz.func42,Tryz.ntmps42;go_wp2_with (go_at_call 78;refine HS2.out.mono ?_;rintro e w1 ⟨rfl,rfl⟩)
  go_ret;exact ⟨rfl,(Below.refl _ _).alloc (Nat.le_refl _) _⟩
 ·obtain ⟨t,L,e1,e2,e3,e4⟩:=uni8_m6 (by omega) h1
  obtain ⟨RR,hRR⟩:∃RR,RR=(L+c/64^t)::m6 c t:=⟨_,rfl⟩
  rw [e1,←hRR]
  have HRR:=Lib.hid hRR;clear hRR;rw [e2] at HSz;have HT:=Lib.hid e4;have htl:1≤t∧t≤3:=by omega
  have hmk:=make_u8n t (by omega)
  have HL:=Lib.hid e3;obtain ⟨t1,t3⟩:=htl;clear e1 e2 e3 e4 k1;go_enter Tryz.func42,Tryz.ntmps42;go_wp2_with (go_at_call 78;refine HSz.out.mono ?_;rintro e w1 ⟨rfl,rfl⟩)
  go_loopw [0,5] (fun cv i wr=>R3Rel w w.heap.size t c cv i wr) (fun _ i _=>(intOf i).toNat)
  case atStart=>
   refine ⟨t,0,by omega,by simp,by go_num,?_,(Below.refl _ _).alloc (Nat.le_refl _) _⟩
   rw [heap_alloc_new]
   simp [m6]
  case round=>
   obtain ⟨k,j,hkj,rfl,rfl,hbk,hbl⟩:=hrel;have HBk:=Lib.hid hbk;have HBl:=Lib.hid hbl;obtain ⟨x0,x1⟩:=div64_le h0 h1 j;have hdg:m6 c (j+1)=(128+c/64^j%64)::m6 c j:=rfl;have hpw:=pow64 c j;have hle:j=t→L+c/64^j≤255:=fun h=>by rw [h];exact HL.out
   have hrs:j=t→c/64^t=c/64^j:=fun h=>by rw [h]
   generalize c/64^j=x at x0 x1 hdg hpw hle hrs ⊢;have HD:=Lib.hid (And.intro hdg hpw)
   clear hbk hbl hdg hpw
   by_cases hk:k=0
   ·obtain rfl:j=t:=by omega
    have HB0:=Lib.hid (show wr.heap[w.heap.size]? =some (.cells (u8s (List.replicate (0+1) 0++m6 c j)).toArray 5 (0,0)) by have:=HBk.out;rw [hk] at this;exact this)
    have y1:=hle rfl;have hxe:=hrs rfl;have hset:(wr.setCell ⟨w.heap.size,0,none⟩ (.int .u8 (L+x))).heap[w.heap.size]? =some (.cells (u8s ((L+x)::m6 c j)).toArray 5 (0,0)):=by
     have:=pset (k:=0) (x:=L+x) (D:=m6 c j)
     rw [heap_setCell_same wr _ _ _ _ _ HB0.out,this]
     rfl
    have hcv:=bytes_of hset;rw [show ((L+x)::m6 c j).length=j+1 by rw [List.length_cons,m6_len]] at hcv;have hfz:=frozen_of HB0.out;have hcl:=dcell (k:=0) HB0.out (by rw [List.length_append,List.length_replicate];omega)
    have HXe:=Lib.hid hxe;clear hset hle hrs hxe hmk HBk HSz;subst hk;have w1:IntKind.u8.wrap (L+x)=L+x:=by
     have h:=HT.out;rw [IntKind.wrap_u8]
     omega
    have w2:IntKind.u32.wrap (L+x)=L+x:=by
     have h:=HT.out;rw [IntKind.wrap_u32]
     omega
    rcases HT.out with ⟨rfl,rfl⟩|⟨rfl,rfl⟩|⟨rfl,rfl⟩
    all_goals
     go_wp2_with fail;go_ret;refine ⟨?_,HBl.out.setCell (Nat.le_refl _) _⟩
     rw [HRR.out,HXe.out]
     rfl
   ·obtain ⟨k,rfl⟩:∃n,k=n+1:=⟨k-1,by omega⟩
    have hk0:(0:Int)<((k+1:Nat):Int):=by omega
    have hfz:=frozen_of HBk.out;have hcl:=dcell (k:=k+1) HBk.out (by rw [List.length_append,List.length_replicate];omega)
    have hset:(wr.setCell ⟨w.heap.size,k+1,none⟩ (.int .u8 (128+x%64))).heap[w.heap.size]? =some (.cells (u8s (List.replicate (k+1) 0++(128+x%64)::m6 c j)).toArray 5 (0,0)):=by rw [heap_setCell_same wr _ _ _ _ _ HBk.out,pset]
    have HSet:=Lib.hid hset;have hkt:k+1<t+1:=by omega
    have w1:IntKind.u8.wrap (128+x%64)=128+x%64:=by rw [IntKind.wrap_u8];omega
    clear hset hle hrs hmk HSz;go_wp2_with fail;go_roundw
    case rel=>
     refine ⟨k,j+1,by omega,by rw [HD.out.2],by go_num,?_,HBl.out.setCell (Nat.le_refl _) _⟩
     rw [HD.out.1]
     exact HSet.out
    case measure=>simp [intOf]
def GrowRel (B:Int→List Int) (w:World) (l:List Int) (v3 v4:Value) (wr:World):Prop:=∃k:Nat,k≤l.length∧v3= .string (strOfNums ((l.take k).flatMap B))∧v4= .int .i64 k∧Below w.heap.size w wr
theorem flat_told {B:Int→List Int}:∀l:List Int,l.flatMap B=told (fun (_:Unit) c=>B c) unN () l
 |[]=>rfl
 |c::l=>by rw [List.flatMap_cons,flat_told l];rfl
theorem flat_take {B:Int→List Int} {l:List Int} {k:Nat} (h:k<l.length):(l.take (k+1)).flatMap B=(l.take k).flatMap B++B (l.getD k 0):=by
 rw [List.take_succ_eq_append_getElem h,List.flatMap_append,List.getD_eq_getElem?_getD,List.getElem?_eq_getElem h]
 simp
theorem flat_len {B:Int→List Int} {n:Nat} (h:∀c,(B c).length≤n):∀l:List Int,(l.flatMap B).length≤n*l.length
 |[]=>Nat.zero_le _
 |c::l=>by
  have:=flat_len h l;have h1:=h c;rw [List.flatMap_cons,List.length_append,List.length_cons,Nat.mul_add]
  omega
set_option maxHeartbeats 4000000 in
theorem bytes3_calls {A:Option Addr} {cap:Nat} {l:List Int} {w:World} (hL:Lst w .u32 A l) (hl:l.length≤1000) (hs:∀x∈l,0≤x∧isB x=true):Calls Tryz.prog 23 #[.slice A l.length cap] w (Str (l.flatMap uni8B) w):=by
 have HL:=Lib.hid hL;have HS:=Lib.hid hs;clear hL hs;go_enter Tryz.func23,Tryz.ntmps23;go_wp2_with fail;go_loopw [3,4] (fun v3 v4 wr=>GrowRel uni8B w l v3 v4 wr) (fun _ v4 _=>l.length-(intOf v4).toNat)
 case atStart=>exact ⟨0,Nat.zero_le _,rfl,rfl,Below.refl _ _⟩
 case round=>
  obtain ⟨k,hk,rfl,rfl,hb⟩:=hrel;have HB:=Lib.hid hb;clear hb
  by_cases hlt:k<l.length
  ·obtain ⟨a,ha,hc⟩:=(HL.out.below HB.out) k hlt
   subst ha;have hx:=HS.out (l.getD k 0) (by rw [List.getD_eq_getElem?_getD,List.getElem?_eq_getElem hlt];exact List.getElem_mem _)
   have hft:=flat_take (B:=uni8B) hlt;generalize l.getD k 0=x at hc hx hft;have h1:=hx.1;have h2:=(isB_iff.1 hx.2).1;have HO:=Lib.hid (one3_calls x wr h1 h2)
   have HF:=Lib.hid hft;clear hft hx;obtain ⟨S0,hS0⟩:∃S,S=strOfNums ((l.take k).flatMap uni8B):=⟨_,rfl⟩
   have HS0:=Lib.hid hS0;have hz0:S0.size≤5000:=by
    have:=flat_len uni8B_len (l.take k)
    rw [List.length_take] at this;rw [hS0,str_size]
    omega
   have hz1:(strOfNums (uni8B x)).size≤5:=by rw [str_size];exact uni8B_len x
   rw [←hS0]
   clear hS0;go_wp2_with fail;refine HO.out.mono ?_;rintro e w1 ⟨rfl,hb1⟩
   have HB1:=Lib.hid hb1;clear hb1;go_wp2_with fail;go_roundw
   case rel=>exact ⟨k+1,hlt,by rw [HF.out,HS0.out,str_append],by go_num,HB.out.trans (HB1.out.mono HB.out.size)⟩
   case measure=>simp [intOf];omega
  ·obtain rfl:k=l.length:=by omega
   rw [List.take_length]
   go_wp2_with fail;go_ret;exact ⟨rfl,HB.out⟩
end Ref
namespace Ref
open Go.RowKit Win Stp Go.Proofs.YtooiooledeblmaaGreat.Lst Out
theorem u8s_append (xs ys:List Int):u8s (xs++ys)=u8s xs++u8s ys:=by simp [u8s]
theorem u8s_one (l:List Int):∀v∈u8s l,v.oneCell'=true:=fun v hv=>by
 unfold u8s at hv;obtain ⟨y,_,rfl⟩:=List.mem_map.1 hv
 rfl
theorem lst8_of {w:World} {base n:Nat} {e:TypeId} {A:Option Addr} {c:Nat} {xs:List Int} (h:w.ownsRow base e 1 (.slice A n c) xs.length (u8s xs)):Lst w .u8 A xs:=fun j hj=>by
 obtain ⟨r,c',hv,_,_⟩:=h.form (by omega)
 injection hv with hA _ _
 subst hA;have hcells:=h.cells (g:=r) rfl;refine ⟨_,rfl,hcells j _ ?_⟩
 unfold u8s;rw [List.getElem?_map,List.getElem?_eq_getElem hj,List.getD_eq_getElem?_getD,List.getElem?_eq_getElem hj]
 rfl
set_option maxRecDepth 100000 in
theorem app8 {P:Program} (hP:P=Tryz.prog) {w:World} {ops:Array Oper} {rest:List Oper} {o:Oper} {a:Act} {Q:Exit→Act→World→Prop} (hgd:o.guard=none) (s x:Operand)
  (ho:o.op= .call {callee:=.builtin .append,args:=#[s,x],argTypes:=#[68,68]})
  (base:Nat) (v:Value) (xs:List Int) (hs:a.eval s=v) (hown:w.ownsRow base 5 1 v xs.length (u8s xs))
  (A:Option Addr) (c:Nat) (ys:List Int) (hx:a.eval x= .slice A ys.length c) (hL:Lst w .u8 A ys) (hnil:A=none→c=0)
  (h63:xs.length+ys.length≤1000000) (hbase:base≤w.heap.size)
  (h:∀A' c' w',w'.ownsRow base 5 1 (.slice A' (xs++ys).length c') (xs++ys).length (u8s (xs++ys))→w.grownBy w' v.ownBlock→(A'=none→c'=0)→wpList P ops Q rest (a.put o.dst (.slice A' (xs++ys).length c')) w'):wpList P ops Q (o::rest) a w:=by
 subst hP;obtain ⟨i0,hi,hz0,hz1,hz2⟩:=info_parts info_u8;have fin:∀v' w',w'.ownsRow base 5 1 v' (xs.length+ys.length) (u8s xs++u8s ys)→w.grownBy w' v.ownBlock→wpList Tryz.prog ops Q rest (a.put o.dst v') w':=by
  intro v' w' h1 h2;rw [←u8s_append] at h1;obtain ⟨A',c',rfl⟩:=owns_form h1;have hl:(xs++ys).length=xs.length+ys.length:=List.length_append;have:=h A' c' w';rw [hl] at this;refine this h1 h2 ?_;rintro rfl;rcases h1.2 with ⟨h3,_⟩|⟨_,_,_,h3,_⟩
  ·injection h3
  ·injection h3 with h3;cases h3
 cases A with
 |none=>
  obtain rfl:c=0:=hnil rfl;obtain rfl:ys=[]:=by
   cases ys with
   |nil=>rfl
   |cons y ys=>
    obtain ⟨a,h,_⟩:=hL 0 (by simp)
    cases h
  refine wpList_append_own_none hgd s x 68 ho base 5 i0 1 Tryz.underlying68 hi v xs.length (u8s xs) hs hown hx ?_;refine fin v w ?_ ⟨rfl,rfl,rfl,Nat.le_refl _,fun _ _ _=>rfl⟩
  simpa [u8s] using hown
 |some ad=>
  refine wpList_append_own w hgd s x 68 ho base 5 i0 (.int .u8 0) 1 1 Tryz.underlying68 hi hz0 hz1 hz2 rfl (by decide) v xs.length (u8s xs) hs hown ad ys.length c (u8s ys) hx (by simp [u8s_length]) ?_ (u8s_one ys) (by unfold maxLen;omega) (by omega) hbase (fun v' w' h1 h2 _=>fin v' w' h1 h2)
  intro j u hu;have hj:j<ys.length:=by have:=(List.getElem?_eq_some_iff.1 hu).1;rw [u8s_length] at this;exact this
  obtain ⟨b,hb,hc⟩:=hL j hj;injection hb with hb
  subst hb;unfold u8s at hu;rw [List.getElem?_map,List.getElem?_eq_getElem hj] at hu;simp at hu;rw [hc,List.getD_eq_getElem?_getD,List.getElem?_eq_getElem hj,←hu]
  rfl
theorem conv_own {w:World} {B n:Nat} {tv:Value} {S:List Int} (h:w.ownsRow B 5 1 tv n (u8s S)) (hn:n=S.length):(convert 68 9 tv).run Tryz.prog w= .ok (.string (strOfNums S)) w:=by
 subst hn;have hcells:=fun g=>h.cells (g:=g)
 rcases h.2 with ⟨h1,h2⟩|⟨g,cap,cur,h1,hb,hg,_⟩
 ·obtain rfl:S=[]:=List.eq_nil_of_length_eq_zero h2
  rw [h1]
  show (convert 68 9 (.slice none 0 0)).run Tryz.prog w= .ok (.string ByteArray.empty) w
  kernel_rfl
 ·subst h1
  exact run_convert_bytes_arg (P:=Tryz.prog) (w:=w) 68 5 Tryz.underlying68 Tryz.underlying5 g 0 S.length cap S rfl (fun i hi=>by
   have:=hcells g rfl i (.int .u8 (S.getD i 0)) (by unfold u8s;rw [List.getElem?_map,List.getD_eq_getElem?_getD,List.getElem?_eq_getElem hi];rfl)
   rwa [Addr.add_lit] at this) 9 Tryz.underlying9
theorem own_lit (w:World) (x:Int) (B:Nat) (hB:B≤w.heap.size):(w.alloc (.cells #[.int .u8 x] 5)).ownsRow B 5 1 (.slice (some ⟨w.heap.size,0,none⟩) 1 1) [x].length (u8s [x]):=
 ⟨rfl,.inr ⟨w.heap.size,1,_,rfl,hB,heap_alloc_new _ _,Nat.le_refl _,by unfold maxLen;omega,rfl,rfl⟩⟩
theorem own_none (w:World) (B:Nat) (hB:B≤w.heap.size):(w.alloc (.cells #[] 5)).ownsRow B 5 1 (.slice (some ⟨w.heap.size,0,none⟩) 0 0) 0 (u8s []):=
 ⟨rfl,.inr ⟨w.heap.size,0,_,rfl,hB,heap_alloc_new _ _,Nat.le_refl _,by unfold maxLen;omega,rfl,rfl⟩⟩
theorem size6_calls (c:Int) (w:World):Calls Tryz.prog 110 #[.int .u32 c] w fun e w'=>e= .returned (.int .i64 (if c<160 then 1 else (mT c:Int)+1))∧w=w':=by
 unfold mT;have hc:c<160∨(¬c<160∧c<1024)∨(¬c<160∧¬c<1024∧c<16384)∨(¬c<160∧¬c<1024∧¬c<16384∧c<262144)∨(¬c<160∧¬c<1024∧¬c<16384∧¬c<262144):=by omega
 rcases hc with h|⟨h,i⟩|⟨h,i,j⟩|⟨h,i,j,k⟩|⟨h,i,j,k⟩
 all_goals
  simp only [*,if_true,if_false]
  go_enter Tryz.func110,Tryz.ntmps110;go_wp2;go_ret;exact ⟨rfl,rfl⟩
def R6Rel (w:World) (t:Nat) (c:Int) (v0 v4 v5:Value) (wr:World):Prop:=
 ∃j:Nat,j≤t∧v0= .int .u32 (c/32^j)∧v5= .int .i64 ((j:Int)+1)∧wr.ownsRow w.heap.size 5 1 v4 (md c j).length (u8s (md c j))∧Below w.heap.size w wr
set_option maxRecDepth 100000 in
set_option maxHeartbeats 4000000 in
theorem one6_calls (c:Int) (w:World) (h0:0≤c) (h1:c≤1114111):Calls Tryz.prog 81 #[.int .u32 c] w (Str (mod8B c) w):=by
 have hsz:=size6_calls c w
 by_cases k1:c<160
 ·rw [show mod8B c=[c] by unfold mod8B;rw [if_pos k1]]
  rw [if_pos k1] at hsz;have HS2:=Lib.hid hsz;clear hsz;have w1:IntKind.u8.wrap c=c:=by rw [IntKind.wrap_u8];omega
  have hcv:(convert 68 9 (.slice (some ⟨w.heap.size,0,none⟩) 1 1)).run Tryz.prog (w.alloc (.cells #[.int .u8 c] 5))= .ok (.string (strOfNums [c])) (w.alloc (.cells #[.int .u8 c] 5)):=conv_new w [c] 1 rfl;go_enter Tryz.func81,Tryz.ntmps81;go_wp2_with (go_at_call 110;refine HS2.out.mono ?_;rintro e w1 ⟨rfl,rfl⟩)
  go_ret;exact ⟨rfl,(Below.refl _ _).alloc (Nat.le_refl _) _⟩
 ·have e1:mod8B c=(mL c+c/32^mT c)::md c (mT c):=by unfold mod8B;rw [if_neg k1]
  obtain ⟨RR,hRR⟩:∃RR,RR=(mL c+c/32^mT c)::md c (mT c):=⟨_,rfl⟩
  rw [e1,←hRR]
  rw [if_neg k1] at hsz;have HS2:=Lib.hid hsz;have HRR:=Lib.hid hRR;obtain ⟨_,l2,l3,l4,l5⟩:=lead_or (c:=c) (by omega) h1;have htl:=mT_le c;have hmt:(mT c=1∧mL c=192)∨(mT c=2∧mL c=224)∨(mT c=3∧mL c=240)∨(mT c=4∧mL c=248):=by
   unfold mT mL
   (repeat' split) <;>simp
  have hsm:mL c+c/32^mT c≤255:=by
   unfold mL mT
   (repeat' split) <;>simp only [Int.pow_one,show (32:Int)^2=1024 from rfl,show (32:Int)^3=32768 from rfl,show (32:Int)^4=1048576 from rfl] <;>omega
  generalize mT c=t at*;generalize mL c=ld at*;have HT:=Lib.hid hmt;have HL:=Lib.hid (And.intro l2 hsm)
  have hld:ld≤248∧0≤ld:=by omega
  have t1:1≤t:=by omega
  clear hmt l2 l3 hRR e1 hsz k1 l4 l5 hsm;go_enter Tryz.func81,Tryz.ntmps81;go_wp2_with (go_at_call 110;refine HS2.out.mono ?_;rintro e w1 ⟨rfl,rfl⟩)
  generalize ((t:Int)+1==1)=zz;go_loopw [0,4,5] (fun v0 v4 v5 wr=>R6Rel w t c v0 v4 v5 wr) (fun _ _ v5 _=>t+1-(intOf v5).toNat)
  case atStart=>exact ⟨0,Nat.zero_le _,by simp,rfl,own_none w _ (Nat.le_refl _),(Below.refl _ _).alloc (Nat.le_refl _) _⟩
  case round=>
   obtain ⟨j,hj,rfl,rfl,hown,hbl⟩:=hrel;obtain ⟨A,c0,rfl⟩:=owns_form hown;have hnA:A≠none∨c0=0:=by
    rcases hown.2 with ⟨h,_⟩|⟨_,_,_,h,_⟩
    ·injection h with _ _ h3;exact .inr h3
    ·injection h with h3;exact .inl (by rw [h3];simp)
   have hlst:Lst wr .u8 A (md c j):=lst8_of hown;have HLs:=Lib.hid hlst;have HnA:=Lib.hid hnA;have HBl:=Lib.hid hbl;have hBw:=hbl.size;obtain ⟨x0,x1⟩:=div32_le h0 h1 j;have hml:=md_length c j;have hdg:md c (j+1)=(160+c/32^j%32)::md c j:=rfl;have hpw:=pow32 c j;have hxe:j=t→c/32^t=c/32^j:=fun h=>by rw [h]
   have hle:j=t→ld+c/32^j≤255:=fun h=>by rw [h];exact HL.out.2
   generalize c/32^j=x at x0 x1 hdg hpw hxe hle ⊢;have HD:=Lib.hid (And.intro hdg hpw)
   have HM:=Lib.hid hml;clear hown hbl hlst hnA hdg hpw hml
   by_cases hlt:j<t
   ·have w1:IntKind.u8.wrap (160+x%32)=160+x%32:=by rw [IntKind.wrap_u8];omega
    have hjt:(j:Int)<(t:Int):=by omega
    have HOl:=Lib.hid (own_lit wr (160+x%32) w.heap.size hBw)
    have HLa:=Lib.hid (HLs.out.below ((Below.refl wr.heap.size wr).alloc (Nat.le_refl _) (.cells #[.int .u8 (160+x%32)] 5)))
    have hBw2:w.heap.size≤(wr.alloc (.cells #[.int .u8 (160+x%32)] 5)).heap.size:=by simp;omega
    have HBw2:=Lib.hid hBw2;have hn0:A=none→c0=0:=fun h=>HnA.out.resolve_left (fun k=>k h)
    have HN0:=Lib.hid hn0;clear hxe hle hBw2 hn0;go_wp2_with (at_builtin;refine app8 rfl rfl _ _ rfl w.heap.size _ [160+x%32] rfl HOl.out A c0 (md c j) rfl HLa.out HN0.out (by rw [HM.out,List.length_singleton];omega) HBw2.out ?_;intro A' c' w3 h1 h2 h3;have H1:=Lib.hid h1;have H2:=Lib.hid h2;clear h1 h2 h3)
    go_roundw
    case rel=>
     refine ⟨j+1,hlt,by rw [HD.out.2],by go_num,?_,?_⟩
     ·rw [HD.out.1]
      exact H1.out
     ·exact (HBl.out.alloc hBw _).grown H2.out HBw2.out (fun i hi=>(HOl.out.lt i hi).1)
    case measure=>simp [intOf];omega
   ·obtain rfl:j=t:=by omega
    have hxe2:=hxe rfl;have hx31:=hle rfl;have HX:=Lib.hid hxe2;have w1:IntKind.u8.wrap (ld+x)=ld+x:=by rw [IntKind.wrap_u8];omega
    have w2:IntKind.u32.wrap (ld+x)=ld+x:=by rw [IntKind.wrap_u32];omega
    have hn0:A=none→c0=0:=fun h=>HnA.out.resolve_left (fun k=>k h)
    have HN0:=Lib.hid hn0;clear hxe hle hxe2 hn0 hlt;obtain ⟨ar,har⟩:∃ar:Obj,ar= .cells #[.int .u32 0,.int .u32 0,.int .u32 192,.int .u32 224,.int .u32 240,.int .u32 248] 210:=⟨_,rfl⟩
    have hol:=own_lit (wr.alloc ar) (ld+x) w.heap.size (by simp;omega)
    have hs1:(wr.alloc ar).heap.size=wr.heap.size+1:=by simp
    rw [hs1,har] at hol;have hba:Below wr.heap.size wr ((wr.alloc ar).alloc (.cells #[.int .u8 (ld+x)] 5)):=((Below.refl wr.heap.size wr).alloc (Nat.le_refl _) ar).alloc (by omega) _;rw [har] at hba;have HLa:=Lib.hid (HLs.out.below hba)
    have hB3:=Nat.le_trans hBw hba.size;have HB3:=Lib.hid hB3;have HOl:=Lib.hid hol;have HBa:=Lib.hid (HBl.out.trans (hba.mono hBw))
    have hml1:=HM.out;have HML:=Lib.hid (show [ld+x].length+(md c j).length≤1000000 by rw [hml1,List.length_singleton];omega)
    clear hol hba hB3 har hs1 hml1;rcases HT.out with ⟨rfl,rfl⟩|⟨rfl,rfl⟩|⟨rfl,rfl⟩|⟨rfl,rfl⟩
    all_goals
     go_wp2_with (at_builtin;refine app8 rfl rfl _ _ rfl w.heap.size _ _ rfl HOl.out A c0 _ rfl HLa.out HN0.out HML.out HB3.out ?_;intro A' c' w3 h1 h2 h3;rw [List.length_append,List.length_singleton,md_length] at h1 ⊢;have hcv:=conv_own h1 (by rw [List.length_append,List.length_singleton,md_length]);simp only [Nat.reduceAdd] at hcv;have H2:=Lib.hid h2;clear h1 h2 h3)
     go_ret;refine ⟨?_,HBa.out.grown H2.out HB3.out (fun i hi=>(HOl.out.lt i hi).1)⟩
     rw [HRR.out,HX.out]
     rfl
end Ref
namespace Ref
open Go.RowKit Win Stp Go.Proofs.YtooiooledeblmaaGreat.Lst Out
set_option maxHeartbeats 4000000 in
theorem bytes6_calls {A:Option Addr} {cap:Nat} {l:List Int} {w:World} (hL:Lst w .u32 A l) (hl:l.length≤1000) (hs:∀x∈l,0≤x∧isB x=true):Calls Tryz.prog 45 #[.slice A l.length cap] w (Str (l.flatMap mod8B) w):=by
 have HL:=Lib.hid hL;have HS:=Lib.hid hs;clear hL hs;go_enter Tryz.func45,Tryz.ntmps45;go_wp2_with fail;go_loopw [3,4] (fun v3 v4 wr=>GrowRel mod8B w l v3 v4 wr) (fun _ v4 _=>l.length-(intOf v4).toNat)
 case atStart=>exact ⟨0,Nat.zero_le _,rfl,rfl,Below.refl _ _⟩
 case round=>
  obtain ⟨k,hk,rfl,rfl,hb⟩:=hrel;have HB:=Lib.hid hb;clear hb
  by_cases hlt:k<l.length
  ·obtain ⟨a,ha,hc⟩:=(HL.out.below HB.out) k hlt
   subst ha;have hx:=HS.out (l.getD k 0) (by rw [List.getD_eq_getElem?_getD,List.getElem?_eq_getElem hlt];exact List.getElem_mem _)
   have hft:=flat_take (B:=mod8B) hlt;generalize l.getD k 0=x at hc hx hft;have h1:=hx.1;have h2:=(isB_iff.1 hx.2).1;have HO:=Lib.hid (one6_calls x wr h1 h2)
   have HF:=Lib.hid hft;clear hft hx;obtain ⟨S0,hS0⟩:∃S,S=strOfNums ((l.take k).flatMap mod8B):=⟨_,rfl⟩
   have HS0:=Lib.hid hS0;have hz0:S0.size≤5000:=by
    have:=flat_len mod8B_len (l.take k)
    rw [List.length_take] at this;rw [hS0,str_size]
    omega
   have hz1:(strOfNums (mod8B x)).size≤5:=by rw [str_size];exact mod8B_len x
   rw [←hS0]
   clear hS0;go_wp2_with fail;refine HO.out.mono ?_;rintro e w1 ⟨rfl,hb1⟩
   have HB1:=Lib.hid hb1;clear hb1;go_wp2_with fail;go_roundw
   case rel=>exact ⟨k+1,hlt,by rw [HF.out,HS0.out,str_append],by go_num,HB.out.trans (HB1.out.mono HB.out.size)⟩
   case measure=>simp [intOf];omega
  ·obtain rfl:k=l.length:=by omega
   rw [List.take_length]
   go_wp2_with fail;go_ret;exact ⟨rfl,HB.out⟩
end Ref
end Go.Proofs.YtooiooledeblmaaGreat
