/- Punycode's text denotes its list; plain. bias.Get of a number that was put. A window is touched: it goes behind the others. The compressor in memory; bytes kept; what it asks of scalars. -/
import Derived.Test.YtooiooledeblmaaGreatZ16
import Derived.Laws.CopyRow
import Derived.Laws.IdiomCopy
import Derived.Laws.BytesArg
import Derived.StillTailTactics
import Derived.Deep.RegionWith
set_option linter.unusedVariables false
set_option linter.unusedSimpArgs false
namespace Go.Proofs.YtooiooledeblmaaGreat
namespace Pun
open Go.RowKit Win Out
inductive Runs:List Int→Int→Int→Int→Bool→List Int→List Int→Prop
 |nil (D:List Int) (n i b:Int) (once:Bool):Runs D n i b once [] D
 |step (D:List Int) (n i b:Int) (once:Bool) (d:Int) (tl out:List Int) (m:Int) (p:Nat):0≤d→d<100000000000→0≤b→b≤1000→0≤n→0≤i→i+d=(m-n)*((D.length:Int)+1)+p→n≤m→p≤D.length→m≤1114111→isB m=true→
  Runs (ins D p m) m ((p:Int)+1) (adaptS d ((D.length:Int)+1) once) false tl out→Runs D n i b once (putS d b++tl) out
def leF (l:List Int) (m:Int):List Int:=l.filter (fun c=>decide (c≤m))
def ltF (l:List Int) (m:Int):List Int:=l.filter (fun c=>decide (c<m))
structure JInv (l:List Int) (m:Int) (j:Nat) (s:PS) (D:List Int) (nd id:Int):Prop where
 lst:D=leF (l.take j) m++ltF (l.drop j) m
 k:s.k=D.length
 eq:id+s.d=(m-nd)*((s.k:Int)+1)+(leF (l.take j) m).length
 n0:0≤nd
 n1:nd≤m
 i0:0≤id
theorem leF_snoc (l:List Int) (m c:Int):leF (l++[c]) m=leF l m++if c≤m then [c] else []:=by
 unfold leF;rw [List.filter_append]
 by_cases h:c≤m <;>simp [h]
theorem ltF_cons (l:List Int) (m c:Int):ltF (c::l) m=(if c<m then [c] else [])++ltF l m:=by
 unfold ltF
 by_cases h:c<m <;>simp [h]
theorem j_inner {l:List Int} {m:Int} (st:Nat) (hl:l.length≤60) (hm0:128≤m) (hm:m≤1114111) (hB:∀x∈l,isB x=true):∀(n j:Nat) (s:PS) (D:List Int) (nd id:Int),j+n=l.length→PIn l m j s→JInv l m j s D nd id→st≤s.k→
  ∃E,((l.drop j).foldl (pin1 m st) s).o=s.o++E∧st≤((l.drop j).foldl (pin1 m st) s).k∧∀tl out,(∀D' nd' id',JInv l m l.length ((l.drop j).foldl (pin1 m st) s) D' nd' id'→Runs D' nd' id' ((l.drop j).foldl (pin1 m st) s).b (((l.drop j).foldl (pin1 m st) s).k==st) tl out)→Runs D nd id s.b (s.k==st) (E++tl) out
 |0,j,s,D,nd,id,hj,hp,hJ,hst=>by
  rw [List.drop_of_length_le (by omega)]
  obtain rfl:j=l.length:=by omega
  exact ⟨[],by simp,hst,fun tl out h=>h D nd id hJ⟩
 |n+1,j,s,D,nd,id,hj,hp,hJ,hst=>by
  have hjl:j<l.length:=by omega
  have hdc:l.drop j=l.getD j 0::l.drop (j+1):=by
   rw [List.drop_eq_getElem_cons hjl,List.getD_eq_getElem?_getD,List.getElem?_eq_getElem hjl];rfl
  have htk:l.take (j+1)=l.take j++[l.getD j 0]:=by
   rw [List.take_succ_eq_append_getElem hjl,List.getD_eq_getElem?_getD,List.getElem?_eq_getElem hjl];rfl
  have hcB:isB (l.getD j 0)=true:=hB _ (by rw [List.getD_eq_getElem?_getD,List.getElem?_eq_getElem hjl];exact List.getElem_mem _)
  have hp2:=pin_step st hl hm0 hm hjl hp;have hle:=leF_snoc (l.take j) m (l.getD j 0)
  have hlt:=ltF_cons (l.drop (j+1)) m (l.getD j 0)
  rw [←htk] at hle;rw [←hdc] at hlt;rw [hdc,List.foldl_cons]
  generalize l.getD j 0=c at hp2 hle hlt hcB ⊢;have hJl:=hJ.lst;have hJk:=hJ.k;have hJe:=hJ.eq;have d0:=hp.d0;have d1:=hp.d1
  by_cases h1:c<m
  ·have e:pin1 m st s c=⟨s.d+1,s.b,s.k,s.o⟩:=by unfold pin1;rw [if_pos h1]
   rw [if_pos (by omega)] at hle;rw [if_pos h1] at hlt;rw [e] at hp2 ⊢;exact j_inner st hl hm0 hm hB n (j+1) _ D nd id (by omega) hp2 ⟨by rw [hJl,hlt,hle,List.append_assoc],hJk,by rw [hle,List.length_append,List.length_singleton];simp only;omega,hJ.n0,hJ.n1,hJ.i0⟩ hst
  ·by_cases h2:c=m
   ·subst h2
    have e:pin1 c st s c=⟨0,adaptS s.d ((s.k:Int)+1) (s.k==st),s.k+1,s.o++putS s.d s.b⟩:=by unfold pin1;rw [if_neg h1,if_pos rfl]
    rw [if_pos (by omega)] at hle;rw [if_neg h1,List.nil_append] at hlt;rw [e] at hp2 ⊢;have hpl:(leF (l.take j) c).length≤D.length:=by rw [hJl,List.length_append];omega
    have hins:ins D (leF (l.take j) c).length c=leF (l.take (j+1)) c++ltF (l.drop (j+1)) c:=by
     unfold ins;rw [hJl,List.take_left,List.drop_left,hle,hlt,List.append_assoc]
     rfl
    obtain ⟨E,hE,hk,hR⟩:=j_inner (m:=c) st hl hm0 hm hB n (j+1) ⟨0,adaptS s.d ((s.k:Int)+1) (s.k==st),s.k+1,s.o++putS s.d s.b⟩ (ins D (leF (l.take j) c).length c) c (((leF (l.take j) c).length:Int)+1) (by omega) hp2
     ⟨hins,by rw [ins_len hpl,hJk],by rw [hle,List.length_append,List.length_singleton];simp,by omega,Int.le_refl _,by omega⟩ (by simp only;omega)
    refine ⟨putS s.d s.b++E,by rw [hE,List.append_assoc],hk,fun tl out h=>?_⟩
    rw [List.append_assoc]
    have hne:(s.k+1==st)=false:=by rw [beq_eq_false_iff_ne];omega
    refine Runs.step D nd id s.b (s.k==st) s.d (E++tl) out c (leF (l.take j) c).length d0 (by omega) hp.b0 hp.b1 hJ.n0 hJ.i0 (by rw [hJe,hJk]) hJ.n1 hpl hm hcB ?_;have:=hR tl out h;simp only [hne] at this;rw [hJk] at this;rw [hJk]
    exact this
   ·have e:pin1 m st s c=s:=by unfold pin1;rw [if_neg h1,if_neg h2]
    rw [if_neg (by omega),List.append_nil] at hle;rw [if_neg h1,List.nil_append] at hlt;rw [e] at hp2 ⊢;exact j_inner st hl hm0 hm hB n (j+1) s D nd id (by omega) hp2 ⟨by rw [hJl,hlt,hle],hJk,by rw [hle];exact hJe,hJ.n0,hJ.n1,hJ.i0⟩ hst
theorem pin_pre (m:Int) (st:Nat):∀(l:List Int) (s:PS),∃E,(l.foldl (pin1 m st) s).o=s.o++E
 |[],s=>⟨[],by simp⟩
 |c::l,s=>by
  obtain ⟨E,hE⟩:=pin_pre m st l (pin1 m st s c)
  rw [List.foldl_cons,hE]
  unfold pin1
  split
  ·exact ⟨E,rfl⟩
  ·split
   ·exact ⟨putS s.d s.b++E,by simp⟩
   ·exact ⟨E,rfl⟩
theorem pout_pre (l:List Int) (st:Nat):∀(rest:List Int) (p:Int×PS),∃E,(rest.foldl (pout1 l st) p).2.o=p.2.o++E
 |[],p=>⟨[],by simp⟩
 |m::rest,p=>by
  obtain ⟨E,hE⟩:=pout_pre l st rest (pout1 l st p m)
  obtain ⟨E1,hE1⟩:=pin_pre m st l ⟨p.2.d+(m-p.1)*((p.2.k:Int)+1),p.2.b,p.2.k,p.2.o⟩
  rw [List.foldl_cons,hE]
  have e:(pout1 l st p m).2.o=(l.foldl (pin1 m st) ⟨p.2.d+(m-p.1)*((p.2.k:Int)+1),p.2.b,p.2.k,p.2.o⟩).o:=rfl;rw [e,hE1,List.append_assoc]
  exact ⟨E1++E,rfl⟩
structure OInv (l:List Int) (n:Int) (s:PS) (D:List Int) (nd id:Int):Prop where
 lst:D=ltF l n
 k:s.k=D.length
 eq:id+s.d=(n-nd)*((s.k:Int)+1)
 n0:0≤nd
 n1:nd≤n
 i0:0≤id
theorem ltF_same {l:List Int} {n m:Int} (h:n≤m) (hx:∀x∈l,n≤x→m≤x):ltF l n=ltF l m:=by
 unfold ltF;refine List.filter_congr fun x hxl=>?_
 have:=hx x hxl;rw [decide_eq_decide]
 omega
theorem j_outer {l:List Int} (st:Nat) (hl:l.length≤60) (hB:∀x∈l,isB x=true):∀(rest:List Int) (n:Int) (s:PS) (D:List Int) (nd id:Int),PInv l n s rest→OInv l n s D nd id→st≤s.k→(∀x∈l,n≤x→x∈rest)→
  ∃E,(rest.foldl (pout1 l st) (n,s)).2.o=s.o++E∧Runs D nd id s.b (s.k==st) E l
 |[],n,s,D,nd,id,hp,hO,hst,hx=>by
  refine ⟨[],by simp,?_⟩
  have:D=l:=by
   rw [hO.lst]
   unfold ltF;rw [List.filter_eq_self]
   intro x hxl;rw [decide_eq_true_eq]
   rcases Int.lt_or_le x n with h|h
   ·exact h
   ·exact absurd (hx x hxl h) (by simp)
  rw [this]
  exact Runs.nil _ _ _ _ _
 |m::rest,n,s,D,nd,id,hp,hO,hst,hx=>by
  have hm:=hp.lo m (by simp)
  have n0:=hp.n0;have hsr:=List.pairwise_cons.1 hp.srt;have hOe:=hO.eq;have hOk:=hO.k;have hmx:∀x∈l,n≤x→m≤x:=fun x hxl h=>by
   rcases List.mem_cons.1 (hx x hxl h) with h|h
   ·omega
   ·have:=hsr.1 x h;omega
  have hmul:(m-n)*((s.k:Int)+1)+(n-nd)*((s.k:Int)+1)=(m-nd)*((s.k:Int)+1):=by
   rw [←Int.add_mul]
   congr 1
   omega
  have hp0:=pin_start hl hp;have hJ:JInv l m 0 ⟨s.d+(m-n)*((s.k:Int)+1),s.b,s.k,s.o⟩ D nd id:=by
   refine ⟨?_,hOk,?_,hO.n0,by have:=hO.n1;omega,hO.i0⟩
   ·rw [hO.lst,ltF_same hm hmx];rfl
   ·have e:(leF (l.take 0) m).length=0:=rfl
    rw [e]
    simp only;omega
  obtain ⟨E1,hE1,hk1,hR1⟩:=j_inner st hl (by omega) (hp.hi m (by simp)) hB l.length 0 _ D nd id (by omega) hp0 hJ hst;have hpf:=pin_fold st hl (by omega) (hp.hi m (by simp)) l.length 0 _ (by omega) hp0;rw [List.drop_zero] at hE1 hk1 hR1 hpf;have hpe:=pin_end hl hp hpf;rw [List.foldl_cons]
  have epo:pout1 l st (n,s) m=(m+1,⟨(l.foldl (pin1 m st) ⟨s.d+(m-n)*((s.k:Int)+1),s.b,s.k,s.o⟩).d+1,(l.foldl (pin1 m st) ⟨s.d+(m-n)*((s.k:Int)+1),s.b,s.k,s.o⟩).b,(l.foldl (pin1 m st) ⟨s.d+(m-n)*((s.k:Int)+1),s.b,s.k,s.o⟩).k,(l.foldl (pin1 m st) ⟨s.d+(m-n)*((s.k:Int)+1),s.b,s.k,s.o⟩).o⟩):=rfl;rw [epo]
  generalize l.foldl (pin1 m st) ⟨s.d+(m-n)*((s.k:Int)+1),s.b,s.k,s.o⟩=s' at hE1 hk1 hR1 hpf hpe ⊢;have hnext:∀D' nd' id',JInv l m l.length s' D' nd' id'→∃E,(rest.foldl (pout1 l st) (m+1,⟨s'.d+1,s'.b,s'.k,s'.o⟩)).2.o=s'.o++E∧Runs D' nd' id' s'.b (s'.k==st) E l:=fun D' nd' id' hJ'=>by
   refine j_outer st hl hB rest (m+1) ⟨s'.d+1,s'.b,s'.k,s'.o⟩ D' nd' id' hpe ⟨?_,hJ'.k,?_,hJ'.n0,by have:=hJ'.n1;omega,hJ'.i0⟩ hk1 (fun x hxl h=>?_)
   ·rw [hJ'.lst,List.take_length,List.drop_length]
    unfold leF ltF;rw [List.filter_nil,List.append_nil]
    refine List.filter_congr fun x _=>?_
    rw [decide_eq_decide]
    omega
   ·have e:=hJ'.eq
    have k2:=hJ'.k;have hD:D'.length=(leF l m).length:=by rw [hJ'.lst,List.take_length,List.drop_length];unfold ltF;rw [List.filter_nil,List.append_nil]
    rw [List.take_length] at e;have e2:(m+1-nd')*((s'.k:Int)+1)=(m-nd')*((s'.k:Int)+1)+((s'.k:Int)+1):=by
     rw [show m+1-nd'=(m-nd')+1 by omega,Int.add_mul,Int.one_mul]
    simp only;omega
   ·have h2:=hx x hxl (by omega)
    rcases List.mem_cons.1 h2 with h3|h3
    ·omega
    ·exact h3
  obtain ⟨E2,hE2⟩:∃E2,(rest.foldl (pout1 l st) (m+1,⟨s'.d+1,s'.b,s'.k,s'.o⟩)).2.o=s'.o++E2:=pout_pre l st rest (m+1,⟨s'.d+1,s'.b,s'.k,s'.o⟩)
  refine ⟨E1++E2,by rw [hE2,hE1,List.append_assoc],?_⟩
  refine hR1 E2 l (fun D' nd' id' hJ'=>?_)
  obtain ⟨E,hE,hR⟩:=hnext D' nd' id' hJ';have:E=E2:=by
   rw [hE2] at hE;exact (List.append_cancel_left hE).symm
  rw [←this]
  exact hR
theorem textP_runs {l:List Int} (hl:l.length≤60) (hs:∀x∈l,0≤x∧isB x=true):∃R,textP l=start0 l++R∧Runs (low l) 128 0 72 true R l:=by
 have hB:∀x∈l,isB x=true:=fun x hx=>(hs x hx).2
 have h1:∀x∈l,x≤1114111:=fun x hx=>(isB_iff.1 (hB x hx)).1
 obtain ⟨E,hE,hR⟩:=j_outer (low l).length hl hB (ms l) 128 ⟨0,72,(low l).length,start0 l⟩ (low l) 128 0 (pinv_start l h1) ⟨rfl,rfl,by simp,by omega,Int.le_refl _,Int.le_refl _⟩ (Nat.le_refl _) (fun x hx h=>(ms_mem l x).2 ⟨hx,h⟩)
 refine ⟨E,hE,?_⟩
 have e:((low l).length==(low l).length)=true:=by simp
 simp only [e] at hR;exact hR
theorem putD_rng (b:Int):∀(m:Nat) (n:Int) (p:Nat),0≤n→∀x∈putD m n b p,48≤x∧x≤122
 |0,_,_,_,x,hx=>by cases hx
 |m+1,n,p,h0,x,hx=>by
  have ht:=thr_in (p:Int) b;rw [putD] at hx
  split at hx
  ·rw [List.mem_singleton.1 hx]
   exact let36_in n h0 (by omega)
  ·have R0:0≤(n-thr (p:Int) b)%(36-thr (p:Int) b):=Int.emod_nonneg _ (by omega)
   have R1:(n-thr (p:Int) b)%(36-thr (p:Int) b)<36-thr (p:Int) b:=Int.emod_lt_of_pos _ (by omega)
   rcases List.mem_cons.1 hx with rfl|hx
   ·exact let36_in _ (by omega) (by omega)
   ·exact putD_rng b m _ (p+1) (Int.ediv_nonneg (by omega) (by omega)) x hx
theorem runs_rng {D:List Int} {n i b:Int} {once:Bool} {R out:List Int} (h:Runs D n i b once R out):∀x∈R,48≤x∧x≤122:=by
 induction h with
 |nil=>intro x hx;cases hx
 |step D n i b once d tl out m p h0 _ _ _ _ _ _ _ _ _ _ _ ih=>
  intro x hx;rcases List.mem_append.1 hx with hx|hx
  ·exact putD_rng b 12 d 0 h0 x hx
  ·exact ih x hx
theorem textP_rng {l:List Int} (hl:l.length≤60) (hs:∀x∈l,0≤x∧isB x=true):∀x∈textP l,0≤x∧x≤127:=by
 obtain ⟨R,h1,h2⟩:=textP_runs hl hs;intro x hx;rw [h1] at hx;rcases List.mem_append.1 hx with hx|hx
 ·unfold start0 at hx
  rcases List.mem_append.1 hx with hx|hx
  ·unfold low at hx
   rw [List.mem_filter,decide_eq_true_eq] at hx;have:=(hs x hx.1).1;omega
  ·split at hx
   ·rw [List.mem_singleton.1 hx];omega
   ·cases hx
 ·have:=runs_rng h2 x hx
  omega
end Pun
namespace Pun
open Go.RowKit Win Stp Lst Out Dcd Dec QBp Go.Proofs.YtooiooledeblmaaGreatW.PrintWords Go.Proofs.YtooiooledeblmaaGreatW.PrintMore
theorem digit_calls (d x:Int) (h0:0≤d) (h1:d<36) (hx:x=let36 d) (w:World):Calls Tryz.prog 258 #[.int .u8 x] w fun e w'=>e= .returned (.tuple #[.int .i64 d,.bool true])∧w=w':=by
 unfold let36 at hx
 by_cases h:d<26
 ·rw [if_pos h] at hx
  have k1:97≤x:=by omega
  have k2:x≤122:=by omega
  have e:x-97=d:=by omega
  clear hx;go_enter Tryz.func258,Tryz.ntmps258;go_wp2_with fail;go_ret2;exact ⟨rfl,rfl⟩
 ·rw [if_neg h] at hx
  have k1:48≤x:=by omega
  have k2:x≤57:=by omega
  have e:x-48+26=d:=by omega
  clear hx;go_enter Tryz.func258,Tryz.ntmps258;go_wp2_with fail;go_ret2;exact ⟨rfl,rfl⟩
def GetPost (n e0:Int) (w:World) (e:Ending) (w':World):Prop:=e= .returned (.tuple #[.int .u64 n,.int .i64 e0,.int .i64 0])∧Below w.heap.size w w'
structure GInv (S post:List Int) (n b:Int) (e0 p at_:Nat) (acc W rest:Int) (m:Nat):Prop where
 dr:S.drop at_=putD (m+1) rest b p++post
 en:at_+(putD (m+1) rest b p).length=e0
 r0:0≤rest
 r1:rest<tens m
 a0:0≤acc
 w0:1≤W
 w1:W≤3600000000000
 sum:acc+W*rest=n
 pm:p+m=11
theorem g_len {S post:List Int} {n b:Int} {e0 p a:Nat} {acc W rest:Int} {m:Nat} (h:GInv S post n b e0 p a acc W rest m):a<S.length∧S.getD a 0=(putD (m+1) rest b p).getD 0 0:=by
 have hp:=putD_pos b m rest p;have hd:=h.dr;have hl:a<S.length:=by
  have:=congrArg List.length hd;rw [List.length_drop,List.length_append] at this;omega
 refine ⟨hl,?_⟩
 have h2:(S.drop a).getD 0 0=(putD (m+1) rest b p).getD 0 0:=by
  rw [hd,List.getD_eq_getElem?_getD,List.getD_eq_getElem?_getD,List.getElem?_append_left (by omega)]
 rw [←h2,List.getD_eq_getElem?_getD,List.getD_eq_getElem?_getD,List.getElem?_drop,Nat.add_zero]
theorem g_last {S post:List Int} {n b:Int} {e0 p a:Nat} {acc W rest:Int} {m:Nat} (h:GInv S post n b e0 p a acc W rest m) (hlt:rest<thr p b):S.getD a 0=let36 rest∧e0=a+1:=by
 have h1:=(g_len h).2;have h2:=h.en;rw [putD,if_pos hlt] at h1 h2;exact ⟨h1,by simp at h2;omega⟩
theorem g_more {S post:List Int} {n b:Int} {e0 p a:Nat} {acc W rest:Int} {m:Nat} (hn:n<100000000000) (h:GInv S post n b e0 p a acc W rest m) (hge:¬rest<thr p b):
  ∃m',m=m'+1∧S.getD a 0=let36 (thr p b+(rest-thr p b)%(36-thr p b))∧(thr p b+(rest-thr p b)%(36-thr p b))*W≤n-acc∧W*36≤3600000000000∧
   GInv S post n b e0 (p+1) (a+1) (acc+(thr p b+(rest-thr p b)%(36-thr p b))*W) (W*(36-thr p b)) ((rest-thr p b)/(36-thr p b)) m':=by
 have ht:=thr_in (p:Int) b;obtain ⟨h1,h2⟩:=g_len h;have hen:=h.en;have hdr:=h.dr;have r0:=h.r0;have r1:=h.r1;have w0:=h.w0;have w1:=h.w1;have hs:=h.sum;have hpm:=h.pm;have ha:=h.a0;obtain ⟨m',rfl⟩:∃q,m=q+1:=by
  cases m with
  |zero=>simp [tens] at r1;omega
  |succ m=>exact ⟨m,rfl⟩
 refine ⟨m',rfl,?_⟩
 rw [putD,if_neg hge] at h2 hen hdr;simp only [tens] at r1;have q:=div_bd (x:=rest-thr (p:Int) b) (t:=36-thr (p:Int) b) (m:=tens m') (by omega) (by omega) (by omega)
 have R0:0≤(rest-thr (p:Int) b)%(36-thr (p:Int) b):=Int.emod_nonneg _ (by omega)
 have hdm:=Int.mul_ediv_add_emod (rest-thr (p:Int) b) (36-thr (p:Int) b)
 generalize hQ:(rest-thr (p:Int) b)/(36-thr (p:Int) b)=Q at*;generalize hR:(rest-thr (p:Int) b)%(36-thr (p:Int) b)=R at*;generalize thr (p:Int) b=t at*;have e:W*rest=(t+R)*W+W*(36-t)*Q:=by
  have:rest=(t+R)+(36-t)*Q:=by omega
  conv=>lhs;rw [this]
  rw [Int.mul_add,Int.mul_comm W (t+R),Int.mul_assoc]
 have hWQ:0≤W*(36-t)*Q:=Int.mul_nonneg (Int.mul_nonneg (by omega) (by omega)) q.1;have hdW:0≤(t+R)*W:=Int.mul_nonneg (by omega) (by omega)
 have hWr:W*1≤W*rest:=Int.mul_le_mul_of_nonneg_left (by omega) (by omega)
 have hW36:W*(36-t)≤W*36:=Int.mul_le_mul_of_nonneg_left (by omega) (by omega)
 have hW1:W*1≤W*(36-t):=Int.mul_le_mul_of_nonneg_left (by omega) (by omega)
 refine ⟨h2,by omega,by omega,?_,?_,q.1,q.2,by omega,by omega,by omega,by omega,by omega⟩
 ·have:=congrArg List.tail hdr
  rw [List.tail_drop] at this;exact this
 ·rw [List.length_cons] at hen
  omega
def GetRel (S post:List Int) (n b:Int) (e0:Nat) (w:World) (v1 v9 v10 v11:Value) (wr:World):Prop:=
 ∃(p at_:Nat) (acc W rest:Int) (m:Nat),v1= .int .i64 at_∧v9= .int .u64 acc∧v10= .int .u64 W∧v11= .int .i64 p∧Below w.heap.size w wr∧GInv S post n b e0 p at_ acc W rest m
theorem tdiv_k {a d W:Int} (ha:0≤a) (ha1:a≤4611686018427387904) (hd:0<d) (h:d*W≤a):∃K,Int.tdiv a d=K∧IntKind.u64.wrap K=K∧¬K<W:=by
 rw [Int.tdiv_eq_ediv_of_nonneg ha]
 have h1:=(Int.le_ediv_iff_mul_le (a:=W) (b:=a) (c:=d) hd).2 (by rw [Int.mul_comm];exact h)
 have h2:0≤a/d:=Int.ediv_nonneg ha (by omega)
 have h3:a/d≤a:=Int.ediv_le_self _ ha;exact ⟨a/d,rfl,u64w h2 (by omega),by omega⟩
set_option maxHeartbeats 8000000 in
theorem get_calls (pre post:List Int) (n b:Int) (h0:0≤n) (h1:n<100000000000) (hl:(pre++(putS n b++post)).length≤4000) (hr:∀x∈pre++(putS n b++post),0≤x∧x≤255) (w:World):
  Calls Tryz.prog 255 #[.string (strOfNums (pre++(putS n b++post))),.int .i64 (pre.length:Nat),.int .i64 b] w (GetPost n ((pre.length+(putS n b).length:Nat):Int) w):=by
 obtain ⟨S,hS⟩:∃S,S=pre++(putS n b++post):=⟨_,rfl⟩
 have hini:GInv S post n b (pre.length+(putS n b).length) 0 pre.length 0 1 n 11:=by
  refine ⟨by rw [hS,List.drop_left];rfl,rfl,h0,by simp only [tens];omega,by omega,by omega,by omega,by omega,rfl⟩
 rw [←hS] at hl hr ⊢;have hpl:=(g_len hini).1;have hby:=byt_nums hr;have hsz:=str_size S;generalize pre.length+(putS n b).length=e0 at hini ⊢;have hat:∀a,(ha:a<(strOfNums S).size)→((strOfNums S)[a].toNat:Int)=S.getD a 0:=fun a ha=>by
  rw [←byt_at (strOfNums S) a ha,hby]
 have HI:=Lib.hid hini;generalize strOfNums S=s at hsz hat ⊢;have HA:=Lib.hid hat;generalize pre.length=a0 at hpl HI ⊢;clear hini hS hby hat hr;go_enter Tryz.func255,Tryz.ntmps255;go_wp2_with fail;generalize decide ((a0:Int)<0)=q0;generalize decide (S.length<a0)=q1;go_loopw [1,9,10,11] (fun v1 v9 v10 v11 wr=>GetRel S post n b e0 w v1 v9 v10 v11 wr) (fun v1 _ _ _ _=>S.length-(intOf v1).toNat)
 case atStart=>exact ⟨0,a0,0,1,n,11,rfl,rfl,rfl,rfl,Below.refl _ _,HI.out⟩
 case round=>
  obtain ⟨p,a,acc,W,rest,m,rfl,rfl,rfl,rfl,hb,hg⟩:=hrel;have HBl:=Lib.hid hb;have HG:=Lib.hid hg;have hal:=(g_len hg).1;have has:a<s.size:=by omega
  have hne:¬(a:Int)=(s.size:Int):=by omega
  have hx:=HA.out a has;have hac:=hg.a0;have hsum:=hg.sum;have hW0:=hg.w0;have hW1:=hg.w1;have hr0:=hg.r0;have hpm:=hg.pm;have ht:=thr_in (p:Int) b;have HTh:=Lib.hid (fun wy=>bias_Threshold.calls (p:Int) b (thr (p:Int) b) wy (thr_go _ _))
  have hWr:0≤W*rest:=Int.mul_nonneg (by omega) (by omega)
  by_cases hlt:rest<thr (p:Int) b
  ·obtain ⟨e1,e2⟩:=g_last hg hlt
   have HD:=Lib.hid (digit_calls rest (s[a].toNat:Int) hr0 (by omega) (hx.trans e1))
   have hrW:rest*W=W*rest:=Int.mul_comm _ _;have m1:IntKind.u64.wrap (W*rest)=W*rest:=u64w (by omega) (by omega)
   have m2:IntKind.u64.wrap (acc+W*rest)=n:=by rw [u64w (by omega) (by omega)];omega
   have m3:IntKind.u64.wrap (4611686018427387904-acc)=4611686018427387904-acc:=u64w (by omega) (by omega)
   have m4:IntKind.u64.wrap rest=rest:=u64w (by omega) (by omega)
   have HE:=Lib.hid e2;obtain ⟨t1,t2⟩:=ht;generalize thr (p:Int) b=t at HTh hlt t1 t2
   by_cases hz:rest=0
   ·subst hz
    have m7:IntKind.u64.wrap acc=n:=by rw [u64w (by omega) (by omega)];omega
    clear hb hg hx hsum e1 e2 hWr m1 m2 hrW;go_wp2_with fail;refine (HD.out _).mono ?_;rintro e w1 ⟨rfl,rfl⟩
    go_wp2_with fail;refine (HTh.out _).mono ?_;rintro e w2 ⟨rfl,hb2⟩
    have HB2:=Lib.hid hb2;clear hb2;go_wp2_with fail;refine bodyPost_ret (v:=.tuple #[.int .u64 n,.int .i64 e0,.int .i64 0]) (by simp [results,Tryz.results255,go_sem,HE.out]) rfl ⟨rfl,HBl.out.trans (HB2.out.mono HBl.out.size)⟩
   ·have hz2:0<rest:=by omega
    obtain ⟨K,hq1,hq2,hq3⟩:=tdiv_k (a:=4611686018427387904-acc) (d:=rest) (W:=W) (by omega) (by omega) hz2 (by omega)
    clear hb hg hx hsum e1 e2 hWr;go_wp2_with fail;refine (HD.out _).mono ?_;rintro e w1 ⟨rfl,rfl⟩
    go_wp2_with fail;refine (HTh.out _).mono ?_;rintro e w2 ⟨rfl,hb2⟩
    have HB2:=Lib.hid hb2;clear hb2;go_wp2_with fail;refine bodyPost_ret (v:=.tuple #[.int .u64 n,.int .i64 e0,.int .i64 0]) (by simp [results,Tryz.results255,go_sem,HE.out]) rfl ⟨rfl,HBl.out.trans (HB2.out.mono HBl.out.size)⟩
  ·obtain ⟨m',hm',e1,e2,e3,hg2⟩:=g_more h1 hg hlt
   have R0:0≤(rest-thr (p:Int) b)%(36-thr (p:Int) b):=Int.emod_nonneg _ (by omega)
   have R1:(rest-thr (p:Int) b)%(36-thr (p:Int) b)<36-thr (p:Int) b:=Int.emod_lt_of_pos _ (by omega)
   generalize (rest-thr (p:Int) b)/(36-thr (p:Int) b)=Q at*;obtain ⟨d,hd⟩:∃d,d=thr (p:Int) b+(rest-thr (p:Int) b)%(36-thr (p:Int) b):=⟨_,rfl⟩
   rw [←hd] at e1 e2 hg2;have HD:=Lib.hid (digit_calls d (s[a].toNat:Int) (by omega) (by omega) (hx.trans e1))
   have d0:0<d:=by omega
   have dt:¬d<thr (p:Int) b:=by omega
   have d36:d<36:=by omega
   generalize thr (p:Int) b=t at*;obtain ⟨t1,t2⟩:=ht;have hdW:0≤d*W:=Int.mul_nonneg (by omega) (by omega)
   have hW36:W*(36-t)≤W*36:=Int.mul_le_mul_of_nonneg_left (by omega) (by omega)
   have hW36':0≤W*(36-t):=Int.mul_nonneg (by omega) (by omega)
   have hcm:(36-t)*W=W*(36-t):=Int.mul_comm _ _;obtain ⟨K,hq1,hq2,hq3⟩:=tdiv_k (a:=4611686018427387904-acc) (d:=d) (W:=W) (by omega) (by omega) d0 (by omega)
   obtain ⟨K2,hr1,hr2,hr3⟩:=tdiv_k (a:=4611686018427387904) (d:=36-t) (W:=W) (by omega) (by omega) (by omega) (by omega)
   have m1:IntKind.u64.wrap (d*W)=d*W:=u64w (by omega) (by omega)
   have m2:IntKind.u64.wrap (acc+d*W)=acc+d*W:=u64w (by omega) (by omega)
   have m3:IntKind.u64.wrap (4611686018427387904-acc)=4611686018427387904-acc:=u64w (by omega) (by omega)
   have m4:IntKind.u64.wrap d=d:=u64w (by omega) (by omega)
   have m5:IntKind.u64.wrap (36-t)=36-t:=u64w (by omega) (by omega)
   have m6:IntKind.u64.wrap (W*(36-t))=W*(36-t):=u64w (by omega) (by omega)
   have HG2:=Lib.hid hg2;clear hb hg hx hsum e1 e2 hWr hd R0 R1 hg2 hm' hcm hW36 hW36' hdW hlt;go_wp2_with fail;refine (HD.out _).mono ?_;rintro e w1 ⟨rfl,rfl⟩
   go_wp2_with fail;refine (HTh.out _).mono ?_;rintro e w2 ⟨rfl,hb2⟩
   have HB2:=Lib.hid hb2;clear hb2;go_wp2_with fail;go_roundw
   case rel=>exact ⟨p+1,a+1,acc+d*W,W*(36-t),Q,m',by go_num,rfl,rfl,by go_num,HBl.out.trans (HB2.out.mono HBl.out.size),HG2.out⟩
   case measure=>simp [intOf];omega
end Pun
namespace Win
open Go.RowKit
set_option maxRecDepth 100000
def wTouch (u:List Int) (n:Int):List Int:=if 0≤n∧n<8 then u.erase n++[n] else u
theorem setRow_below (w:World) (g:Nat) (A B:Array Value) (t:TypeId) (hg:w.heap[g]? =some (.cells A t (0,0))):Chg (·=g) w (w.drew.setRow g B)∧(w.drew.setRow g B).heap[g]? =some (.cells B t (0,0)):=by
 have hg':w.drew.heap[g]? =some (.cells A t (0,0)):=hg;refine ⟨⟨rfl,rfl,rfl,?_,fun i hi hs=>?_⟩,?_⟩
 ·show w.heap.size≤(w.heap.modify g _).size
  rw [Array.size_modify];exact Nat.le_refl _
 ·show (w.heap.modify g _)[i]? =w.heap[i]?
  rw [Array.getElem?_modify,if_neg (fun e=>hs e.symm)]
 ·exact setRow_heap w.drew g A B t (0,0) hg'
theorem src_of {w:World} {g:Nat} {o u:List Int} (h:WinAt w g o u) (p:Nat) (hp:p≤8):∀(j:Nat) (v:Value),((u.drop p).map fun x=>Value.int .i64 x)[j]? =some v→w.drew.cell? ((⟨g,8+p,none⟩:Addr).add j)=some v:=by
 intro j v hj;have hadd:(⟨g,8+p,none⟩:Addr).add j=⟨g,8+(p+j),none⟩:=by unfold Addr.add;split <;>simp_all [Nat.add_assoc]
 have hlt:p+j<8:=by
  have:=(List.getElem?_eq_some_iff.1 hj).1;simp [h.lu] at this;omega
 rw [hadd]
 show w.cell? _=_
 rw [h.cellU (p+j) hlt]
 rw [List.getElem?_map,List.getElem?_drop] at hj;rw [List.getD_eq_getElem?_getD]
 cases hq:u[p+j]? with
 |none=>rw [hq] at hj;simp at hj
 |some x=>rw [hq] at hj;simpa using hj
set_option maxHeartbeats 2000000 in
theorem touch_0 (g:Nat) (o:List Int) (n:Int) (b0 b1 b2 b3 b4 b5 b6 b7:Int) (w:World) (h:WinAt w g o [b0,b1,b2,b3,b4,b5,b6,b7]) (hn:0≤n) (hn2:n<8) (e0:(b0==n)=true):
  Calls Tryz.prog 217 #[.pointer (some ⟨g,0,none⟩),.int .i64 n] w fun e w'=>e= .returned (.tuple #[])∧WinAt w' g o [b1,b2,b3,b4,b5,b6,b7,n]∧Chg (·=g) w w':=by
 have hlo:=h.lo;have hne:∀z:Int,0≤z→z<0→(([b0,b1,b2,b3,b4,b5,b6,b7].getD z.toNat 0:Int)==n)=false:=by
  intro z hz0 hz1;omega
 have HW:=Lib.hid h;have hf:=h.frozen;have hi:=is_calls n;rw [show (decide (0≤n)&&decide (n<8))=true from by simp;omega] at hi;obtain ⟨W1,hW1⟩:∃W1,W1=w.drew.setRow g (winCells o [b1,b2,b3,b4,b5,b6,b7,b7]).toArray:=⟨_,rfl⟩
 obtain ⟨hch,hbl⟩:=setRow_below w g _ (winCells o [b1,b2,b3,b4,b5,b6,b7,b7]).toArray _ h.blk;rw [←hW1] at hch hbl;have hcp:(Builtin.copy_ #[26,26] 3 #[.slice (some ⟨g,8,none⟩) 8 8,.slice (some ⟨g,9,none⟩) 7 7]).run Tryz.prog w.drew= .ok (.int .i64 7) W1:=by
  rw [hW1]
  refine (run_copy_row _ w.drew _ _ _ 3 g 8 8 8 ⟨g,9,none⟩ 7 7 _ _ [.int .i64 b1,.int .i64 b2,.int .i64 b3,.int .i64 b4,.int .i64 b5,.int .i64 b6,.int .i64 b7] (by kernel_rfl) (by kernel_rfl) h.blk (by rfl) (src_of h 1 (by decide)) (by simp [winCells,hlo]) (by simp [Value.oneCell'])).trans ?_
  show Result.ok _ _=_
  congr 2
  simp [winCells,List.take_append,List.drop_append,hlo,List.take_of_length_le,List.drop_of_length_le]
 have hW1':WinAt W1 g o [b1,b2,b3,b4,b5,b6,b7,b7]:=⟨hbl,hlo,rfl⟩
 have hc15:W1.cell? ⟨g,15,none⟩=some (.int .i64 b7):=hW1'.cellU 7 (by decide)
 have hf15:W1.frozen? ⟨g,15,none⟩=false:=hW1'.frozen 15;have HW1:=Lib.hid hW1';have HCH:=Lib.hid hch;clear h hlo hne hW1 hch hbl hW1';go_enter Tryz.func217,Tryz.ntmps217;go_wp2_with (go_at_call 224;refine (hi _).mono ?_;rintro e w1 ⟨rfl,rfl⟩)
 go_loop [4] (fun i=>∃z:Int,i= .int .i64 z∧0≤z∧z≤0) (fun i=>8-(intOf i).toNat)
 case atStart=>exact ⟨0,rfl,by decide,by decide⟩
 case round=>
  obtain ⟨z,rfl,hz0,hz1⟩:=hrel
  by_cases hlt:z<0
  ·exact absurd hlt (by omega)
  ·obtain rfl:z=0:=by omega
   have hcz:w.cell? ⟨g,8,none⟩=some (.int .i64 b0):=HW.out.cellU 0 (by decide)
   have hnz:(b0==n)=true:=by simpa using e0
   go_wp2;go_region;go_wp2;go_end0;refine ⟨rfl,?_,HCH.out.trans (Chg.set (S:=(·=g)) _ rfl _ _)⟩
   exact HW1.out.setU 7 (by decide) n
set_option maxHeartbeats 2000000 in
theorem touch_1 (g:Nat) (o:List Int) (n:Int) (b0 b1 b2 b3 b4 b5 b6 b7:Int) (w:World) (h:WinAt w g o [b0,b1,b2,b3,b4,b5,b6,b7]) (hn:0≤n) (hn2:n<8) (e0:(b0==n)=false) (e1:(b1==n)=true):
  Calls Tryz.prog 217 #[.pointer (some ⟨g,0,none⟩),.int .i64 n] w fun e w'=>e= .returned (.tuple #[])∧WinAt w' g o [b0,b2,b3,b4,b5,b6,b7,n]∧Chg (·=g) w w':=by
 have hlo:=h.lo;have hne:∀z:Int,0≤z→z<1→(([b0,b1,b2,b3,b4,b5,b6,b7].getD z.toNat 0:Int)==n)=false:=by
  intro z hz0 hz1;have hz:z=0:=by omega
  rcases hz with rfl
  ·exact e0
 have HNE:=Lib.hid hne;have HW:=Lib.hid h;have hf:=h.frozen;have hi:=is_calls n;rw [show (decide (0≤n)&&decide (n<8))=true from by simp;omega] at hi;obtain ⟨W1,hW1⟩:∃W1,W1=w.drew.setRow g (winCells o [b0,b2,b3,b4,b5,b6,b7,b7]).toArray:=⟨_,rfl⟩
 obtain ⟨hch,hbl⟩:=setRow_below w g _ (winCells o [b0,b2,b3,b4,b5,b6,b7,b7]).toArray _ h.blk;rw [←hW1] at hch hbl;have hcp:(Builtin.copy_ #[26,26] 3 #[.slice (some ⟨g,9,none⟩) 7 7,.slice (some ⟨g,10,none⟩) 6 6]).run Tryz.prog w.drew= .ok (.int .i64 6) W1:=by
  rw [hW1]
  refine (run_copy_row _ w.drew _ _ _ 3 g 9 7 7 ⟨g,10,none⟩ 6 6 _ _ [.int .i64 b2,.int .i64 b3,.int .i64 b4,.int .i64 b5,.int .i64 b6,.int .i64 b7] (by kernel_rfl) (by kernel_rfl) h.blk (by rfl) (src_of h 2 (by decide)) (by simp [winCells,hlo]) (by simp [Value.oneCell'])).trans ?_
  show Result.ok _ _=_
  congr 2
  simp [winCells,List.take_append,List.drop_append,hlo,List.take_of_length_le,List.drop_of_length_le]
 have hW1':WinAt W1 g o [b0,b2,b3,b4,b5,b6,b7,b7]:=⟨hbl,hlo,rfl⟩
 have hc15:W1.cell? ⟨g,15,none⟩=some (.int .i64 b7):=hW1'.cellU 7 (by decide)
 have hf15:W1.frozen? ⟨g,15,none⟩=false:=hW1'.frozen 15;have HW1:=Lib.hid hW1';have HCH:=Lib.hid hch;clear h hlo hne hW1 hch hbl hW1';go_enter Tryz.func217,Tryz.ntmps217;go_wp2_with (go_at_call 224;refine (hi _).mono ?_;rintro e w1 ⟨rfl,rfl⟩)
 go_loop [4] (fun i=>∃z:Int,i= .int .i64 z∧0≤z∧z≤1) (fun i=>8-(intOf i).toNat)
 case atStart=>exact ⟨0,rfl,by decide,by decide⟩
 case round=>
  obtain ⟨z,rfl,hz0,hz1⟩:=hrel
  by_cases hlt:z<1
  ·have hcz:=HW.out.cellU z.toNat (by omega)
   have hnz:=HNE.out z hz0 hlt;generalize ([b0,b1,b2,b3,b4,b5,b6,b7].getD z.toNat 0:Int)=bz at hcz hnz;clear hcp hc15 hf15;go_wp2;exact ⟨⟨z+1,by rfl,by omega,by omega⟩,by simp [intOf];omega⟩
  ·obtain rfl:z=1:=by omega
   have hcz:w.cell? ⟨g,9,none⟩=some (.int .i64 b1):=HW.out.cellU 1 (by decide)
   have hnz:(b1==n)=true:=by simpa using e1
   go_wp2;go_region;go_wp2;go_end0;refine ⟨rfl,?_,HCH.out.trans (Chg.set (S:=(·=g)) _ rfl _ _)⟩
   exact HW1.out.setU 7 (by decide) n
set_option maxHeartbeats 2000000 in
theorem touch_2 (g:Nat) (o:List Int) (n:Int) (b0 b1 b2 b3 b4 b5 b6 b7:Int) (w:World) (h:WinAt w g o [b0,b1,b2,b3,b4,b5,b6,b7]) (hn:0≤n) (hn2:n<8) (e0:(b0==n)=false) (e1:(b1==n)=false) (e2:(b2==n)=true):
  Calls Tryz.prog 217 #[.pointer (some ⟨g,0,none⟩),.int .i64 n] w fun e w'=>e= .returned (.tuple #[])∧WinAt w' g o [b0,b1,b3,b4,b5,b6,b7,n]∧Chg (·=g) w w':=by
 have hlo:=h.lo;have hne:∀z:Int,0≤z→z<2→(([b0,b1,b2,b3,b4,b5,b6,b7].getD z.toNat 0:Int)==n)=false:=by
  intro z hz0 hz1;have hz:z=0∨z=1:=by omega
  rcases hz with rfl|rfl
  ·exact e0
  ·exact e1
 have HNE:=Lib.hid hne;have HW:=Lib.hid h;have hf:=h.frozen;have hi:=is_calls n;rw [show (decide (0≤n)&&decide (n<8))=true from by simp;omega] at hi;obtain ⟨W1,hW1⟩:∃W1,W1=w.drew.setRow g (winCells o [b0,b1,b3,b4,b5,b6,b7,b7]).toArray:=⟨_,rfl⟩
 obtain ⟨hch,hbl⟩:=setRow_below w g _ (winCells o [b0,b1,b3,b4,b5,b6,b7,b7]).toArray _ h.blk;rw [←hW1] at hch hbl;have hcp:(Builtin.copy_ #[26,26] 3 #[.slice (some ⟨g,10,none⟩) 6 6,.slice (some ⟨g,11,none⟩) 5 5]).run Tryz.prog w.drew= .ok (.int .i64 5) W1:=by
  rw [hW1]
  refine (run_copy_row _ w.drew _ _ _ 3 g 10 6 6 ⟨g,11,none⟩ 5 5 _ _ [.int .i64 b3,.int .i64 b4,.int .i64 b5,.int .i64 b6,.int .i64 b7] (by kernel_rfl) (by kernel_rfl) h.blk (by rfl) (src_of h 3 (by decide)) (by simp [winCells,hlo]) (by simp [Value.oneCell'])).trans ?_
  show Result.ok _ _=_
  congr 2
  simp [winCells,List.take_append,List.drop_append,hlo,List.take_of_length_le,List.drop_of_length_le]
 have hW1':WinAt W1 g o [b0,b1,b3,b4,b5,b6,b7,b7]:=⟨hbl,hlo,rfl⟩
 have hc15:W1.cell? ⟨g,15,none⟩=some (.int .i64 b7):=hW1'.cellU 7 (by decide)
 have hf15:W1.frozen? ⟨g,15,none⟩=false:=hW1'.frozen 15;have HW1:=Lib.hid hW1';have HCH:=Lib.hid hch;clear h hlo hne hW1 hch hbl hW1';go_enter Tryz.func217,Tryz.ntmps217;go_wp2_with (go_at_call 224;refine (hi _).mono ?_;rintro e w1 ⟨rfl,rfl⟩)
 go_loop [4] (fun i=>∃z:Int,i= .int .i64 z∧0≤z∧z≤2) (fun i=>8-(intOf i).toNat)
 case atStart=>exact ⟨0,rfl,by decide,by decide⟩
 case round=>
  obtain ⟨z,rfl,hz0,hz1⟩:=hrel
  by_cases hlt:z<2
  ·have hcz:=HW.out.cellU z.toNat (by omega)
   have hnz:=HNE.out z hz0 hlt;generalize ([b0,b1,b2,b3,b4,b5,b6,b7].getD z.toNat 0:Int)=bz at hcz hnz;clear hcp hc15 hf15;go_wp2;exact ⟨⟨z+1,by rfl,by omega,by omega⟩,by simp [intOf];omega⟩
  ·obtain rfl:z=2:=by omega
   have hcz:w.cell? ⟨g,10,none⟩=some (.int .i64 b2):=HW.out.cellU 2 (by decide)
   have hnz:(b2==n)=true:=by simpa using e2
   go_wp2;go_region;go_wp2;go_end0;refine ⟨rfl,?_,HCH.out.trans (Chg.set (S:=(·=g)) _ rfl _ _)⟩
   exact HW1.out.setU 7 (by decide) n
set_option maxHeartbeats 2000000 in
theorem touch_3 (g:Nat) (o:List Int) (n:Int) (b0 b1 b2 b3 b4 b5 b6 b7:Int) (w:World) (h:WinAt w g o [b0,b1,b2,b3,b4,b5,b6,b7]) (hn:0≤n) (hn2:n<8) (e0:(b0==n)=false) (e1:(b1==n)=false) (e2:(b2==n)=false) (e3:(b3==n)=true):
  Calls Tryz.prog 217 #[.pointer (some ⟨g,0,none⟩),.int .i64 n] w fun e w'=>e= .returned (.tuple #[])∧WinAt w' g o [b0,b1,b2,b4,b5,b6,b7,n]∧Chg (·=g) w w':=by
 have hlo:=h.lo;have hne:∀z:Int,0≤z→z<3→(([b0,b1,b2,b3,b4,b5,b6,b7].getD z.toNat 0:Int)==n)=false:=by
  intro z hz0 hz1;have hz:z=0∨z=1∨z=2:=by omega
  rcases hz with rfl|rfl|rfl
  ·exact e0
  ·exact e1
  ·exact e2
 have HNE:=Lib.hid hne;have HW:=Lib.hid h;have hf:=h.frozen;have hi:=is_calls n;rw [show (decide (0≤n)&&decide (n<8))=true from by simp;omega] at hi;obtain ⟨W1,hW1⟩:∃W1,W1=w.drew.setRow g (winCells o [b0,b1,b2,b4,b5,b6,b7,b7]).toArray:=⟨_,rfl⟩
 obtain ⟨hch,hbl⟩:=setRow_below w g _ (winCells o [b0,b1,b2,b4,b5,b6,b7,b7]).toArray _ h.blk;rw [←hW1] at hch hbl;have hcp:(Builtin.copy_ #[26,26] 3 #[.slice (some ⟨g,11,none⟩) 5 5,.slice (some ⟨g,12,none⟩) 4 4]).run Tryz.prog w.drew= .ok (.int .i64 4) W1:=by
  rw [hW1]
  refine (run_copy_row _ w.drew _ _ _ 3 g 11 5 5 ⟨g,12,none⟩ 4 4 _ _ [.int .i64 b4,.int .i64 b5,.int .i64 b6,.int .i64 b7] (by kernel_rfl) (by kernel_rfl) h.blk (by rfl) (src_of h 4 (by decide)) (by simp [winCells,hlo]) (by simp [Value.oneCell'])).trans ?_
  show Result.ok _ _=_
  congr 2
  simp [winCells,List.take_append,List.drop_append,hlo,List.take_of_length_le,List.drop_of_length_le]
 have hW1':WinAt W1 g o [b0,b1,b2,b4,b5,b6,b7,b7]:=⟨hbl,hlo,rfl⟩
 have hc15:W1.cell? ⟨g,15,none⟩=some (.int .i64 b7):=hW1'.cellU 7 (by decide)
 have hf15:W1.frozen? ⟨g,15,none⟩=false:=hW1'.frozen 15;have HW1:=Lib.hid hW1';have HCH:=Lib.hid hch;clear h hlo hne hW1 hch hbl hW1';go_enter Tryz.func217,Tryz.ntmps217;go_wp2_with (go_at_call 224;refine (hi _).mono ?_;rintro e w1 ⟨rfl,rfl⟩)
 go_loop [4] (fun i=>∃z:Int,i= .int .i64 z∧0≤z∧z≤3) (fun i=>8-(intOf i).toNat)
 case atStart=>exact ⟨0,rfl,by decide,by decide⟩
 case round=>
  obtain ⟨z,rfl,hz0,hz1⟩:=hrel
  by_cases hlt:z<3
  ·have hcz:=HW.out.cellU z.toNat (by omega)
   have hnz:=HNE.out z hz0 hlt;generalize ([b0,b1,b2,b3,b4,b5,b6,b7].getD z.toNat 0:Int)=bz at hcz hnz;clear hcp hc15 hf15;go_wp2;exact ⟨⟨z+1,by rfl,by omega,by omega⟩,by simp [intOf];omega⟩
  ·obtain rfl:z=3:=by omega
   have hcz:w.cell? ⟨g,11,none⟩=some (.int .i64 b3):=HW.out.cellU 3 (by decide)
   have hnz:(b3==n)=true:=by simpa using e3
   go_wp2;go_region;go_wp2;go_end0;refine ⟨rfl,?_,HCH.out.trans (Chg.set (S:=(·=g)) _ rfl _ _)⟩
   exact HW1.out.setU 7 (by decide) n
set_option maxHeartbeats 2000000 in
theorem touch_4 (g:Nat) (o:List Int) (n:Int) (b0 b1 b2 b3 b4 b5 b6 b7:Int) (w:World) (h:WinAt w g o [b0,b1,b2,b3,b4,b5,b6,b7]) (hn:0≤n) (hn2:n<8) (e0:(b0==n)=false) (e1:(b1==n)=false) (e2:(b2==n)=false) (e3:(b3==n)=false) (e4:(b4==n)=true):
  Calls Tryz.prog 217 #[.pointer (some ⟨g,0,none⟩),.int .i64 n] w fun e w'=>e= .returned (.tuple #[])∧WinAt w' g o [b0,b1,b2,b3,b5,b6,b7,n]∧Chg (·=g) w w':=by
 have hlo:=h.lo;have hne:∀z:Int,0≤z→z<4→(([b0,b1,b2,b3,b4,b5,b6,b7].getD z.toNat 0:Int)==n)=false:=by
  intro z hz0 hz1;have hz:z=0∨z=1∨z=2∨z=3:=by omega
  rcases hz with rfl|rfl|rfl|rfl
  ·exact e0
  ·exact e1
  ·exact e2
  ·exact e3
 have HNE:=Lib.hid hne;have HW:=Lib.hid h;have hf:=h.frozen;have hi:=is_calls n;rw [show (decide (0≤n)&&decide (n<8))=true from by simp;omega] at hi;obtain ⟨W1,hW1⟩:∃W1,W1=w.drew.setRow g (winCells o [b0,b1,b2,b3,b5,b6,b7,b7]).toArray:=⟨_,rfl⟩
 obtain ⟨hch,hbl⟩:=setRow_below w g _ (winCells o [b0,b1,b2,b3,b5,b6,b7,b7]).toArray _ h.blk;rw [←hW1] at hch hbl;have hcp:(Builtin.copy_ #[26,26] 3 #[.slice (some ⟨g,12,none⟩) 4 4,.slice (some ⟨g,13,none⟩) 3 3]).run Tryz.prog w.drew= .ok (.int .i64 3) W1:=by
  rw [hW1]
  refine (run_copy_row _ w.drew _ _ _ 3 g 12 4 4 ⟨g,13,none⟩ 3 3 _ _ [.int .i64 b5,.int .i64 b6,.int .i64 b7] (by kernel_rfl) (by kernel_rfl) h.blk (by rfl) (src_of h 5 (by decide)) (by simp [winCells,hlo]) (by simp [Value.oneCell'])).trans ?_
  show Result.ok _ _=_
  congr 2
  simp [winCells,List.take_append,List.drop_append,hlo,List.take_of_length_le,List.drop_of_length_le]
 have hW1':WinAt W1 g o [b0,b1,b2,b3,b5,b6,b7,b7]:=⟨hbl,hlo,rfl⟩
 have hc15:W1.cell? ⟨g,15,none⟩=some (.int .i64 b7):=hW1'.cellU 7 (by decide)
 have hf15:W1.frozen? ⟨g,15,none⟩=false:=hW1'.frozen 15;have HW1:=Lib.hid hW1';have HCH:=Lib.hid hch;clear h hlo hne hW1 hch hbl hW1';go_enter Tryz.func217,Tryz.ntmps217;go_wp2_with (go_at_call 224;refine (hi _).mono ?_;rintro e w1 ⟨rfl,rfl⟩)
 go_loop [4] (fun i=>∃z:Int,i= .int .i64 z∧0≤z∧z≤4) (fun i=>8-(intOf i).toNat)
 case atStart=>exact ⟨0,rfl,by decide,by decide⟩
 case round=>
  obtain ⟨z,rfl,hz0,hz1⟩:=hrel
  by_cases hlt:z<4
  ·have hcz:=HW.out.cellU z.toNat (by omega)
   have hnz:=HNE.out z hz0 hlt;generalize ([b0,b1,b2,b3,b4,b5,b6,b7].getD z.toNat 0:Int)=bz at hcz hnz;clear hcp hc15 hf15;go_wp2;exact ⟨⟨z+1,by rfl,by omega,by omega⟩,by simp [intOf];omega⟩
  ·obtain rfl:z=4:=by omega
   have hcz:w.cell? ⟨g,12,none⟩=some (.int .i64 b4):=HW.out.cellU 4 (by decide)
   have hnz:(b4==n)=true:=by simpa using e4
   go_wp2;go_region;go_wp2;go_end0;refine ⟨rfl,?_,HCH.out.trans (Chg.set (S:=(·=g)) _ rfl _ _)⟩
   exact HW1.out.setU 7 (by decide) n
set_option maxHeartbeats 2000000 in
theorem touch_5 (g:Nat) (o:List Int) (n:Int) (b0 b1 b2 b3 b4 b5 b6 b7:Int) (w:World) (h:WinAt w g o [b0,b1,b2,b3,b4,b5,b6,b7]) (hn:0≤n) (hn2:n<8) (e0:(b0==n)=false) (e1:(b1==n)=false) (e2:(b2==n)=false) (e3:(b3==n)=false) (e4:(b4==n)=false) (e5:(b5==n)=true):
  Calls Tryz.prog 217 #[.pointer (some ⟨g,0,none⟩),.int .i64 n] w fun e w'=>e= .returned (.tuple #[])∧WinAt w' g o [b0,b1,b2,b3,b4,b6,b7,n]∧Chg (·=g) w w':=by
 have hlo:=h.lo;have hne:∀z:Int,0≤z→z<5→(([b0,b1,b2,b3,b4,b5,b6,b7].getD z.toNat 0:Int)==n)=false:=by
  intro z hz0 hz1;have hz:z=0∨z=1∨z=2∨z=3∨z=4:=by omega
  rcases hz with rfl|rfl|rfl|rfl|rfl
  ·exact e0
  ·exact e1
  ·exact e2
  ·exact e3
  ·exact e4
 have HNE:=Lib.hid hne;have HW:=Lib.hid h;have hf:=h.frozen;have hi:=is_calls n;rw [show (decide (0≤n)&&decide (n<8))=true from by simp;omega] at hi;obtain ⟨W1,hW1⟩:∃W1,W1=w.drew.setRow g (winCells o [b0,b1,b2,b3,b4,b6,b7,b7]).toArray:=⟨_,rfl⟩
 obtain ⟨hch,hbl⟩:=setRow_below w g _ (winCells o [b0,b1,b2,b3,b4,b6,b7,b7]).toArray _ h.blk;rw [←hW1] at hch hbl;have hcp:(Builtin.copy_ #[26,26] 3 #[.slice (some ⟨g,13,none⟩) 3 3,.slice (some ⟨g,14,none⟩) 2 2]).run Tryz.prog w.drew= .ok (.int .i64 2) W1:=by
  rw [hW1]
  refine (run_copy_row _ w.drew _ _ _ 3 g 13 3 3 ⟨g,14,none⟩ 2 2 _ _ [.int .i64 b6,.int .i64 b7] (by kernel_rfl) (by kernel_rfl) h.blk (by rfl) (src_of h 6 (by decide)) (by simp [winCells,hlo]) (by simp [Value.oneCell'])).trans ?_
  show Result.ok _ _=_
  congr 2
  simp [winCells,List.take_append,List.drop_append,hlo,List.take_of_length_le,List.drop_of_length_le]
 have hW1':WinAt W1 g o [b0,b1,b2,b3,b4,b6,b7,b7]:=⟨hbl,hlo,rfl⟩
 have hc15:W1.cell? ⟨g,15,none⟩=some (.int .i64 b7):=hW1'.cellU 7 (by decide)
 have hf15:W1.frozen? ⟨g,15,none⟩=false:=hW1'.frozen 15;have HW1:=Lib.hid hW1';have HCH:=Lib.hid hch;clear h hlo hne hW1 hch hbl hW1';go_enter Tryz.func217,Tryz.ntmps217;go_wp2_with (go_at_call 224;refine (hi _).mono ?_;rintro e w1 ⟨rfl,rfl⟩)
 go_loop [4] (fun i=>∃z:Int,i= .int .i64 z∧0≤z∧z≤5) (fun i=>8-(intOf i).toNat)
 case atStart=>exact ⟨0,rfl,by decide,by decide⟩
 case round=>
  obtain ⟨z,rfl,hz0,hz1⟩:=hrel
  by_cases hlt:z<5
  ·have hcz:=HW.out.cellU z.toNat (by omega)
   have hnz:=HNE.out z hz0 hlt;generalize ([b0,b1,b2,b3,b4,b5,b6,b7].getD z.toNat 0:Int)=bz at hcz hnz;clear hcp hc15 hf15;go_wp2;exact ⟨⟨z+1,by rfl,by omega,by omega⟩,by simp [intOf];omega⟩
  ·obtain rfl:z=5:=by omega
   have hcz:w.cell? ⟨g,13,none⟩=some (.int .i64 b5):=HW.out.cellU 5 (by decide)
   have hnz:(b5==n)=true:=by simpa using e5
   go_wp2;go_region;go_wp2;go_end0;refine ⟨rfl,?_,HCH.out.trans (Chg.set (S:=(·=g)) _ rfl _ _)⟩
   exact HW1.out.setU 7 (by decide) n
set_option maxHeartbeats 2000000 in
theorem touch_6 (g:Nat) (o:List Int) (n:Int) (b0 b1 b2 b3 b4 b5 b6 b7:Int) (w:World) (h:WinAt w g o [b0,b1,b2,b3,b4,b5,b6,b7]) (hn:0≤n) (hn2:n<8) (e0:(b0==n)=false) (e1:(b1==n)=false) (e2:(b2==n)=false) (e3:(b3==n)=false) (e4:(b4==n)=false) (e5:(b5==n)=false) (e6:(b6==n)=true):
  Calls Tryz.prog 217 #[.pointer (some ⟨g,0,none⟩),.int .i64 n] w fun e w'=>e= .returned (.tuple #[])∧WinAt w' g o [b0,b1,b2,b3,b4,b5,b7,n]∧Chg (·=g) w w':=by
 have hlo:=h.lo;have hne:∀z:Int,0≤z→z<6→(([b0,b1,b2,b3,b4,b5,b6,b7].getD z.toNat 0:Int)==n)=false:=by
  intro z hz0 hz1;have hz:z=0∨z=1∨z=2∨z=3∨z=4∨z=5:=by omega
  rcases hz with rfl|rfl|rfl|rfl|rfl|rfl
  ·exact e0
  ·exact e1
  ·exact e2
  ·exact e3
  ·exact e4
  ·exact e5
 have HNE:=Lib.hid hne;have HW:=Lib.hid h;have hf:=h.frozen;have hi:=is_calls n;rw [show (decide (0≤n)&&decide (n<8))=true from by simp;omega] at hi;obtain ⟨W1,hW1⟩:∃W1,W1=w.drew.setRow g (winCells o [b0,b1,b2,b3,b4,b5,b7,b7]).toArray:=⟨_,rfl⟩
 obtain ⟨hch,hbl⟩:=setRow_below w g _ (winCells o [b0,b1,b2,b3,b4,b5,b7,b7]).toArray _ h.blk;rw [←hW1] at hch hbl;have hcp:(Builtin.copy_ #[26,26] 3 #[.slice (some ⟨g,14,none⟩) 2 2,.slice (some ⟨g,15,none⟩) 1 1]).run Tryz.prog w.drew= .ok (.int .i64 1) W1:=by
  rw [hW1]
  refine (run_copy_row _ w.drew _ _ _ 3 g 14 2 2 ⟨g,15,none⟩ 1 1 _ _ [.int .i64 b7] (by kernel_rfl) (by kernel_rfl) h.blk (by rfl) (src_of h 7 (by decide)) (by simp [winCells,hlo]) (by simp [Value.oneCell'])).trans ?_
  show Result.ok _ _=_
  congr 2
  simp [winCells,List.take_append,List.drop_append,hlo,List.take_of_length_le,List.drop_of_length_le]
 have hW1':WinAt W1 g o [b0,b1,b2,b3,b4,b5,b7,b7]:=⟨hbl,hlo,rfl⟩
 have hc15:W1.cell? ⟨g,15,none⟩=some (.int .i64 b7):=hW1'.cellU 7 (by decide)
 have hf15:W1.frozen? ⟨g,15,none⟩=false:=hW1'.frozen 15;have HW1:=Lib.hid hW1';have HCH:=Lib.hid hch;clear h hlo hne hW1 hch hbl hW1';go_enter Tryz.func217,Tryz.ntmps217;go_wp2_with (go_at_call 224;refine (hi _).mono ?_;rintro e w1 ⟨rfl,rfl⟩)
 go_loop [4] (fun i=>∃z:Int,i= .int .i64 z∧0≤z∧z≤6) (fun i=>8-(intOf i).toNat)
 case atStart=>exact ⟨0,rfl,by decide,by decide⟩
 case round=>
  obtain ⟨z,rfl,hz0,hz1⟩:=hrel
  by_cases hlt:z<6
  ·have hcz:=HW.out.cellU z.toNat (by omega)
   have hnz:=HNE.out z hz0 hlt;generalize ([b0,b1,b2,b3,b4,b5,b6,b7].getD z.toNat 0:Int)=bz at hcz hnz;clear hcp hc15 hf15;go_wp2;exact ⟨⟨z+1,by rfl,by omega,by omega⟩,by simp [intOf];omega⟩
  ·obtain rfl:z=6:=by omega
   have hcz:w.cell? ⟨g,14,none⟩=some (.int .i64 b6):=HW.out.cellU 6 (by decide)
   have hnz:(b6==n)=true:=by simpa using e6
   go_wp2;go_region;go_wp2;go_end0;refine ⟨rfl,?_,HCH.out.trans (Chg.set (S:=(·=g)) _ rfl _ _)⟩
   exact HW1.out.setU 7 (by decide) n
set_option maxHeartbeats 2000000 in
theorem touch_7 (g:Nat) (o:List Int) (n:Int) (b0 b1 b2 b3 b4 b5 b6 b7:Int) (w:World) (h:WinAt w g o [b0,b1,b2,b3,b4,b5,b6,b7]) (hn:0≤n) (hn2:n<8) (e0:(b0==n)=false) (e1:(b1==n)=false) (e2:(b2==n)=false) (e3:(b3==n)=false) (e4:(b4==n)=false) (e5:(b5==n)=false) (e6:(b6==n)=false) (e7:(b7==n)=true):
  Calls Tryz.prog 217 #[.pointer (some ⟨g,0,none⟩),.int .i64 n] w fun e w'=>e= .returned (.tuple #[])∧WinAt w' g o [b0,b1,b2,b3,b4,b5,b6,n]∧Chg (·=g) w w':=by
 have hlo:=h.lo;have hne:∀z:Int,0≤z→z<7→(([b0,b1,b2,b3,b4,b5,b6,b7].getD z.toNat 0:Int)==n)=false:=by
  intro z hz0 hz1;have hz:z=0∨z=1∨z=2∨z=3∨z=4∨z=5∨z=6:=by omega
  rcases hz with rfl|rfl|rfl|rfl|rfl|rfl|rfl
  ·exact e0
  ·exact e1
  ·exact e2
  ·exact e3
  ·exact e4
  ·exact e5
  ·exact e6
 have HNE:=Lib.hid hne;have HW:=Lib.hid h;have hf:=h.frozen;have hi:=is_calls n;rw [show (decide (0≤n)&&decide (n<8))=true from by simp;omega] at hi;obtain ⟨W1,hW1⟩:∃W1,W1=w.drew.setRow g (winCells o [b0,b1,b2,b3,b4,b5,b6,b7]).toArray:=⟨_,rfl⟩
 obtain ⟨hch,hbl⟩:=setRow_below w g _ (winCells o [b0,b1,b2,b3,b4,b5,b6,b7]).toArray _ h.blk;rw [←hW1] at hch hbl;have hcp:(Builtin.copy_ #[26,26] 3 #[.slice (some ⟨g,15,none⟩) 1 1,.slice (some ⟨g,8,none⟩) 0 0]).run Tryz.prog w.drew= .ok (.int .i64 0) W1:=by
  rw [hW1]
  rw [setRow_self w.drew g _ _ _ h.blk]
  exact run_copy_none w.drew _ _ _ 3 _ _ _ _ _ _ (by kernel_rfl) (by kernel_rfl) (by rfl)
 have hW1':WinAt W1 g o [b0,b1,b2,b3,b4,b5,b6,b7]:=⟨hbl,hlo,rfl⟩
 have hc15:W1.cell? ⟨g,15,none⟩=some (.int .i64 b7):=hW1'.cellU 7 (by decide)
 have hf15:W1.frozen? ⟨g,15,none⟩=false:=hW1'.frozen 15;have HW1:=Lib.hid hW1';have HCH:=Lib.hid hch;clear h hlo hne hW1 hch hbl hW1';go_enter Tryz.func217,Tryz.ntmps217;go_wp2_with (go_at_call 224;refine (hi _).mono ?_;rintro e w1 ⟨rfl,rfl⟩)
 go_loop [4] (fun i=>∃z:Int,i= .int .i64 z∧0≤z∧z≤7) (fun i=>8-(intOf i).toNat)
 case atStart=>exact ⟨0,rfl,by decide,by decide⟩
 case round=>
  obtain ⟨z,rfl,hz0,hz1⟩:=hrel
  by_cases hlt:z<7
  ·have hcz:=HW.out.cellU z.toNat (by omega)
   have hnz:=HNE.out z hz0 hlt;generalize ([b0,b1,b2,b3,b4,b5,b6,b7].getD z.toNat 0:Int)=bz at hcz hnz;clear hcp hc15 hf15;go_wp2;exact ⟨⟨z+1,by rfl,by omega,by omega⟩,by simp [intOf];omega⟩
  ·obtain rfl:z=7:=by omega
   have hcz:w.cell? ⟨g,15,none⟩=some (.int .i64 b7):=HW.out.cellU 7 (by decide)
   have hnz:(b7==n)=true:=by simpa using e7
   go_wp2;go_region;go_wp2;go_end0;refine ⟨rfl,?_,HCH.out.trans (Chg.set (S:=(·=g)) _ rfl _ _)⟩
   exact HW1.out.setU 7 (by decide) n
theorem touch_calls (g:Nat) (o u:List Int) (n:Int) (w:World) (h:WinAt w g o u) (hm:0≤n→n<8→n∈u):
  Calls Tryz.prog 217 #[.pointer (some ⟨g,0,none⟩),.int .i64 n] w fun e w'=>e= .returned (.tuple #[])∧WinAt w' g o (wTouch u n)∧Chg (·=g) w w':=by
 by_cases hn':0≤n∧n<8
 rotate_left
 ·have he:wTouch u n=u:=by unfold wTouch;rw [if_neg hn']
  rw [he]
  have hi:=is_calls n;rw [show (decide (0≤n)&&decide (n<8))=false from by simp;omega] at hi;have HW:=Lib.hid h;clear h hn' he hm;go_enter Tryz.func217,Tryz.ntmps217;go_wp2_with (go_at_call 224;refine (hi _).mono ?_;rintro e w1 ⟨rfl,rfl⟩)
  exact bodyPost_ret (v:=.tuple #[]) (by simp [results,Tryz.results217,go_sem]) rfl ⟨rfl,HW.out,Chg.refl _⟩
 obtain ⟨hn,hn2⟩:=hn';have hmem:=hm hn hn2;obtain ⟨b0,b1,b2,b3,b4,b5,b6,b7,rfl⟩:=list8 h.lu
 by_cases e0:b0=n
 ·have he:wTouch [b0,b1,b2,b3,b4,b5,b6,b7] n=[b1,b2,b3,b4,b5,b6,b7,n]:=by
   unfold wTouch;rw [if_pos ⟨hn,hn2⟩]
   simp [List.erase_cons,e0]
  rw [he]
  exact touch_0 g o n b0 b1 b2 b3 b4 b5 b6 b7 w h hn hn2 (beq_iff_eq.2 e0)
 by_cases e1:b1=n
 ·have he:wTouch [b0,b1,b2,b3,b4,b5,b6,b7] n=[b0,b2,b3,b4,b5,b6,b7,n]:=by
   unfold wTouch;rw [if_pos ⟨hn,hn2⟩]
   simp [List.erase_cons,e0,e1]
  rw [he]
  exact touch_1 g o n b0 b1 b2 b3 b4 b5 b6 b7 w h hn hn2 (beq_eq_false_iff_ne.2 e0) (beq_iff_eq.2 e1)
 by_cases e2:b2=n
 ·have he:wTouch [b0,b1,b2,b3,b4,b5,b6,b7] n=[b0,b1,b3,b4,b5,b6,b7,n]:=by
   unfold wTouch;rw [if_pos ⟨hn,hn2⟩]
   simp [List.erase_cons,e0,e1,e2]
  rw [he]
  exact touch_2 g o n b0 b1 b2 b3 b4 b5 b6 b7 w h hn hn2 (beq_eq_false_iff_ne.2 e0) (beq_eq_false_iff_ne.2 e1) (beq_iff_eq.2 e2)
 by_cases e3:b3=n
 ·have he:wTouch [b0,b1,b2,b3,b4,b5,b6,b7] n=[b0,b1,b2,b4,b5,b6,b7,n]:=by
   unfold wTouch;rw [if_pos ⟨hn,hn2⟩]
   simp [List.erase_cons,e0,e1,e2,e3]
  rw [he]
  exact touch_3 g o n b0 b1 b2 b3 b4 b5 b6 b7 w h hn hn2 (beq_eq_false_iff_ne.2 e0) (beq_eq_false_iff_ne.2 e1) (beq_eq_false_iff_ne.2 e2) (beq_iff_eq.2 e3)
 by_cases e4:b4=n
 ·have he:wTouch [b0,b1,b2,b3,b4,b5,b6,b7] n=[b0,b1,b2,b3,b5,b6,b7,n]:=by
   unfold wTouch;rw [if_pos ⟨hn,hn2⟩]
   simp [List.erase_cons,e0,e1,e2,e3,e4]
  rw [he]
  exact touch_4 g o n b0 b1 b2 b3 b4 b5 b6 b7 w h hn hn2 (beq_eq_false_iff_ne.2 e0) (beq_eq_false_iff_ne.2 e1) (beq_eq_false_iff_ne.2 e2) (beq_eq_false_iff_ne.2 e3) (beq_iff_eq.2 e4)
 by_cases e5:b5=n
 ·have he:wTouch [b0,b1,b2,b3,b4,b5,b6,b7] n=[b0,b1,b2,b3,b4,b6,b7,n]:=by
   unfold wTouch;rw [if_pos ⟨hn,hn2⟩]
   simp [List.erase_cons,e0,e1,e2,e3,e4,e5]
  rw [he]
  exact touch_5 g o n b0 b1 b2 b3 b4 b5 b6 b7 w h hn hn2 (beq_eq_false_iff_ne.2 e0) (beq_eq_false_iff_ne.2 e1) (beq_eq_false_iff_ne.2 e2) (beq_eq_false_iff_ne.2 e3) (beq_eq_false_iff_ne.2 e4) (beq_iff_eq.2 e5)
 by_cases e6:b6=n
 ·have he:wTouch [b0,b1,b2,b3,b4,b5,b6,b7] n=[b0,b1,b2,b3,b4,b5,b7,n]:=by
   unfold wTouch;rw [if_pos ⟨hn,hn2⟩]
   simp [List.erase_cons,e0,e1,e2,e3,e4,e5,e6]
  rw [he]
  exact touch_6 g o n b0 b1 b2 b3 b4 b5 b6 b7 w h hn hn2 (beq_eq_false_iff_ne.2 e0) (beq_eq_false_iff_ne.2 e1) (beq_eq_false_iff_ne.2 e2) (beq_eq_false_iff_ne.2 e3) (beq_eq_false_iff_ne.2 e4) (beq_eq_false_iff_ne.2 e5) (beq_iff_eq.2 e6)
 by_cases e7:b7=n
 ·have he:wTouch [b0,b1,b2,b3,b4,b5,b6,b7] n=[b0,b1,b2,b3,b4,b5,b6,n]:=by
   unfold wTouch;rw [if_pos ⟨hn,hn2⟩]
   simp [List.erase_cons,e0,e1,e2,e3,e4,e5,e6,e7]
  rw [he]
  exact touch_7 g o n b0 b1 b2 b3 b4 b5 b6 b7 w h hn hn2 (beq_eq_false_iff_ne.2 e0) (beq_eq_false_iff_ne.2 e1) (beq_eq_false_iff_ne.2 e2) (beq_eq_false_iff_ne.2 e3) (beq_eq_false_iff_ne.2 e4) (beq_eq_false_iff_ne.2 e5) (beq_eq_false_iff_ne.2 e6) (beq_iff_eq.2 e7)
 exfalso;simp at hmem;omega
end Win
namespace Enc
open Go.RowKit Win Stp
structure E where
 o:List Int
 u:List Int
 plain:Bool
 uni:Bool
 act:Int
 beh:Bool
 wt:Int
def encCells (b:B4) (l:List Int) (gw:Nat) (m:E):Array Value:=
 #[.int .i64 b.at_,.int .i64 b.err,.int .i64 b.pl,.bool b.fin,.string (strOfNums l),.bool m.plain,.pointer (some ⟨gw,0,none⟩),.bool m.uni,.int .i64 m.act,.bool m.beh,.int .u32 m.wt]
structure EncAt (w:World) (g gw:Nat) (b:B4) (l:List Int) (m:E):Prop where
 blk:w.heap[g]? =some (.cells (encCells b l gw m) 186 (0,0))
 win:WinAt w gw m.o m.u
section
variable {w:World} {g gw:Nat} {b:B4} {l:List Int} {m:E}
theorem EncAt.base (h:EncAt w g gw b l m):BaseAt w g b:=⟨by rw [cell_of h.blk];rfl,by rw [cell_of h.blk];rfl,by rw [cell_of h.blk];rfl,by rw [cell_of h.blk];rfl,frozen_of h.blk⟩
theorem EncAt.fz (h:EncAt w g gw b l m):∀j,w.frozen? ⟨g,j,none⟩=false:=frozen_of h.blk
theorem EncAt.c4 (h:EncAt w g gw b l m):w.cell? ⟨g,4,none⟩=some (.string (strOfNums l)):=by rw [cell_of h.blk];rfl
theorem EncAt.c5 (h:EncAt w g gw b l m):w.cell? ⟨g,5,none⟩=some (.bool m.plain):=by rw [cell_of h.blk];rfl
theorem EncAt.c6 (h:EncAt w g gw b l m):w.cell? ⟨g,6,none⟩=some (.pointer (some ⟨gw,0,none⟩)):=by rw [cell_of h.blk];rfl
theorem EncAt.c7 (h:EncAt w g gw b l m):w.cell? ⟨g,7,none⟩=some (.bool m.uni):=by rw [cell_of h.blk];rfl
theorem EncAt.c8 (h:EncAt w g gw b l m):w.cell? ⟨g,8,none⟩=some (.int .i64 m.act):=by rw [cell_of h.blk];rfl
theorem EncAt.c9 (h:EncAt w g gw b l m):w.cell? ⟨g,9,none⟩=some (.bool m.beh):=by rw [cell_of h.blk];rfl
theorem EncAt.c10 (h:EncAt w g gw b l m):w.cell? ⟨g,10,none⟩=some (.int .u32 m.wt):=by rw [cell_of h.blk];rfl
theorem EncAt.lt (h:EncAt w g gw b l m):g<w.heap.size:=(Array.getElem?_eq_some_iff.1 h.blk).1
theorem EncAt.ne_gw (h:EncAt w g gw b l m):gw≠g:=by
 rintro rfl;have:=h.blk.symm.trans h.win.blk;simp at this
theorem EncAt.set (h:EncAt w g gw b l m) (j:Nat) (x:Value) {b':B4} {l':List Int} {m':E} (he:(encCells b l gw m).setIfInBounds j x=encCells b' l' gw m') (ho:m'.o=m.o) (hu:m'.u=m.u):EncAt (w.setCell ⟨g,j,none⟩ x) g gw b' l' m':=by
 refine ⟨?_,?_⟩
 ·rw [heap_setCell_same w g j _ _ _ h.blk,he]
 ·rw [ho,hu];exact h.win.keep (Below.heap_setCell w _ _ gw h.ne_gw)
theorem EncAt.keep {w':World} (h:EncAt w g gw b l m) (h0:w'.heap[g]? =w.heap[g]?) (h1:w'.heap[gw]? =w.heap[gw]?):EncAt w' g gw b l m:=⟨h0.trans h.blk,h.win.keep h1⟩
theorem EncAt.below {w':World} (h:EncAt w g gw b l m) (hb:Below w.heap.size w w'):EncAt w' g gw b l m:=h.keep (hb.block g h.lt) (hb.block gw h.win.lt)
theorem EncAt.alloc (h:EncAt w g gw b l m) (o:Obj):EncAt (w.alloc o) g gw b l m:=h.keep (Below.heap_alloc w o g h.lt) (Below.heap_alloc w o gw h.win.lt)
theorem EncAt.drewN (h:EncAt w g gw b l m) (n:Nat):EncAt (w.drewN n) g gw b l m:=h.keep rfl rfl
theorem EncAt.wins {w':World} {o u:List Int} (h:EncAt w g gw b l m) (hw:WinAt w' gw o u) (hc:Chg (·=gw) w w'):EncAt w' g gw b l {m with o:=o,u:=u}:=⟨(hc.block g h.lt (fun e=>h.ne_gw e.symm)).trans h.blk,hw⟩
end
def EFS (g gw:Nat):Nat→Prop:=fun i=>i=g∨i=gw
theorem efs_g {g gw:Nat} {w:World} (j:Nat) (v:Value):Chg (EFS g gw) w (w.setCell ⟨g,j,none⟩ v):=Chg.set w (.inl rfl) j v
theorem efs_gw {g gw:Nat} {w w':World} (h:Chg (·=gw) w w'):Chg (EFS g gw) w w':=h.mono (fun i hi=> .inr hi)
theorem str_append (a b:List Int):strOfNums a++strOfNums b=strOfNums (a++b):=by
 have:(strOfNums a++strOfNums b).data=(strOfNums (a++b)).data:=by
  rw [ByteArray.data_append]
  simp [strOfNums]
 cases h1:(strOfNums a++strOfNums b)
 cases h2:strOfNums (a++b)
 rw [h1,h2] at this;simp only at this;rw [this]
theorem str_size (a:List Int):(strOfNums a).size=a.length:=by simp [strOfNums,ByteArray.size]
theorem pkeep_calls {w:World} {g gw:Nat} {b:B4} {l:List Int} {m:E} (xs:List Int) (h:EncAt w g gw b l m) (hl:l.length≤1000000) (hx:xs.length≤10):
  Calls Tryz.prog 146 #[.pointer (some ⟨g,4,none⟩),.string (strOfNums xs)] w fun e w'=>e= .returned (.tuple #[])∧w'=w.setCell ⟨g,4,none⟩ (.string (strOfNums (l++xs))):=by
 have h4:=h.c4;have f4:=h.fz 4;have e:=str_append l xs;have s1:(strOfNums l).size≤1000000:=by rw [str_size];exact hl
 have s2:(strOfNums xs).size≤10:=by rw [str_size];exact hx
 obtain ⟨S,hS⟩:∃S,S=strOfNums (l++xs):=⟨_,rfl⟩
 rw [←hS] at e ⊢;generalize strOfNums l=A at*;generalize strOfNums xs=B at*;clear h hS;go_enter Tryz.func146,Tryz.ntmps146;go_wp2;go_end0;exact ⟨rfl,rfl⟩
def KeepPost (w:World) (g gw:Nat) (b:B4) (l:List Int) (m:E) (e:Ending) (w':World):Prop:=e= .returned (.tuple #[])∧EncAt w' g gw b l m∧Chg (EFS g gw) w w'
theorem keep_calls {w:World} {g gw:Nat} {b:B4} {l:List Int} {m:E} (xs:List Int) (h:EncAt w g gw b l m) (hl:l.length≤1000000) (hx:xs.length≤10):
  Calls Tryz.prog 201 #[.pointer (some ⟨g,0,none⟩),.slice (some ⟨w.heap.size,0,none⟩) xs.length xs.length] (w.alloc (.cells (xs.map fun x=>Value.int .u8 x).toArray 5)) (KeepPost w g gw b (l++xs) m):=by
 have hz:=h.alloc (.cells (xs.map fun x=>Value.int .u8 x).toArray 5)
 have hc:=Chg.alloc (S:=EFS g gw) w (.cells (xs.map fun x=>Value.int .u8 x).toArray 5)
 have hnew:=heap_alloc_new w (.cells (xs.map fun x=>Value.int .u8 x).toArray 5)
 obtain ⟨w1,hw1⟩:∃w1,w1=w.alloc (.cells (xs.map fun x=>Value.int .u8 x).toArray 5):=⟨_,rfl⟩
 obtain ⟨a,ha⟩:∃a,a=w.heap.size:=⟨_,rfl⟩
 rw [←hw1] at hz hc hnew ⊢;rw [←ha] at hnew ⊢;have hcv:(convert 68 9 (.slice (some ⟨a,0,none⟩) xs.length xs.length)).run Tryz.prog w1.drew= .ok (.string (strOfNums xs)) w1.drew:=by
  refine run_convert_bytes_arg _ _ 5 Tryz.underlying68 Tryz.underlying5 a 0 xs.length xs.length xs rfl (fun i hi=>?_) _ Tryz.underlying9
  show w1.cell? _=_
  rw [cell_of hnew]
  simp [List.getD_eq_getElem?_getD,hi]
 have hk:=pkeep_calls (w:=w1.drew) xs (show EncAt w1.drew g gw b l m from hz.drewN 1) hl hx;have HZ:=Lib.hid hz;have HC:=Lib.hid hc;have HK:=Lib.hid hk;obtain ⟨n,hn⟩:∃n,n=xs.length:=⟨_,rfl⟩
 rw [←hn] at hcv;rw [←hn]
 clear h hz hc hk hnew hw1 ha hn;generalize strOfNums xs=B at*;go_enter Tryz.func201,Tryz.ntmps201;go_wp2_with fail;go_region_with (go_at_call 146;refine HK.out.mono ?_;rintro e w2 ⟨rfl,rfl⟩)
 all_goals
  go_wp2_with fail;go_end0;exact ⟨rfl,(HZ.out.drewN 1).set 4 _ rfl rfl rfl,(HC.out.trans (Chg.drew _)).trans (efs_g 4 _)⟩
end Enc
end Go.Proofs.YtooiooledeblmaaGreat
