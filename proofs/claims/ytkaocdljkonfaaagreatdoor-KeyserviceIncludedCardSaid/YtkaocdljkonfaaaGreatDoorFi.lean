/-
  The subterms of a term; lists that are kept in order, each term once; copies. A slice that grows by appends: what it holds, and the rooms that stay it
-/
import Derived.Test.YtkaocdljkonfaaaGreatDoorFh
import Derived.WideShapes
import Derived.Shelf.SlSortCmp.WholeK
import Derived.Lib.ItoaNum
import Derived.Lib.AtoiAll
import Derived.Lib.ItoaMem
namespace Go.Vm
variable {l:List Tm} {N by_ es i:Nat} {a t u v y:Tm} {k n:Int} {α:Type} {L el:List (List PV)} {s:Bs} {b:Bool} {args cs:List PV} {ti:TI} {W w':World} {c:Code} {f:FuncId} {fn:Func} {g:Gh} {H:Heap} {r:List UInt8}
mutual
def Tm.all:Tm→List Tm
 | .mk k nm s b kids=> .mk k nm s b kids::Us kids
def Us:List Tm→List Tm
 | []=>[]
 |t::r=>t.all++Us r
end
def Tm.knd:Tm→Int
 | .mk k _ _ _ _=>k
theorem ZdR (h:l[i]? = some t):Us (l.take (i+1))=Us (l.take i)++t.all:=by
 induction l generalizing i with
 |nil=>simp at h
 | cons a r ih =>
   cases i with
   | zero=>simp at h;subst h;simp [Us]
   | succ i=>simp at h;simp only [List.take_succ_cons,Us,ih h,List.append_assoc]
mutual
theorem Tm.all_len:∀ t:Tm,t.all.length=t.size
 | .mk k nm s b kids=>by have:=VO kids;simp only [Tm.all,Tm.size,List.length_cons];omega
theorem VO:∀ l:List Tm,(Us l).length=Zz l
 | []=>rfl
 |t::r=>by have:=t.all_len;have:=VO r;simp only [Us,Zz,List.length_append];omega
end
theorem ZiX (ht:t.Ok):∀ x,x∈t.all→x.Ok∧x.size≤t.size:=by
 induction ht with
 | @mk k nm s b kids hk hs hn hl hok ih =>
   have key:∀ l:List Tm,(∀ t,t∈l→t∈kids)→∀ x,x∈Us l→x.Ok∧x.size≤Zz l:=by
    intro l
    induction l with
    | nil=>intro _ x hx;simp [Us] at hx
    | cons a r ih2 =>
      intro hl x hx
      simp only [Us,List.mem_append] at hx
      simp only [Zz]
      rcases hx with hx|hx
      · have := ih a (hl a List.mem_cons_self) x hx
        exact ⟨this.1,by omega⟩
      · have := ih2 (fun t ht => hl t (List.mem_cons_of_mem _ ht)) x hx
        exact ⟨this.1,by omega⟩
   intro x hx
   simp only [Tm.all,List.mem_cons] at hx
   rcases hx with rfl|hx
   · exact ⟨.mk hk hs hn hl hok,Nat.le_refl _⟩
   · have := key kids (fun _ h => h) x hx
     simp only [Tm.size]
     exact ⟨this.1,by omega⟩
def V8 (k:Int) (l:List Tm):List Tm:=l.filter fun t=>decide (t.knd=k)
theorem Zh3 (h:l[i]? = some t):V8 k (l.take (i+1))=V8 k (l.take i)++if t.knd=k then [t] else []:=by
 simp only [V8,List.take_add_one,h,Option.toList_some,List.filter_append]
 congr 1
 by_cases c:t.knd=k<;>simp [c]
theorem Q4 (k:Int) (l:List Tm):(V8 k l).length≤l.length:=List.length_filter_le _ _
def Yk (t:Tm) (s:List Tm×Bool) (x:Tm):List Tm×Bool:=
 if s.2=false∧t.cmp x≤0 then ((s.1++if t.cmp x<0 then [t] else [])++ [x],true) else (s.1++ [x],s.2)
def ZcT (l:List Tm) (t:Tm):List Tm:=match l.foldl (Yk t) ([],false) with
 |(o,true)=>o
 |(o,false)=>o++ [t]
def UN (l:List Tm):List Tm:=l.foldl ZcT []
theorem ZbD {β:Type} {f:β→α→β} {b:β} {l:List α} {x:α} (h:l[i]? = some x):(l.take (i+1)).foldl f b=f ((l.take i).foldl f b) x:=by
 simp [List.take_add_one,h,List.foldl_append]
def b01:Bool→Nat
 |true=>0
 |false=>1
theorem Zek (t:Tm) (s:List Tm×Bool) (x:Tm):(Yk t s x).1.length+b01 (Yk t s x).2≤s.1.length+b01 s.2+1:=by
 unfold Yk
 split
 · rename_i h
   rw [h.1]
   split<;>simp [b01]
 · simp;omega
theorem Uf (t:Tm):∀ (l:List Tm) (s:List Tm×Bool),(l.foldl (Yk t) s).1.length+b01 (l.foldl (Yk t) s).2≤s.1.length+b01 s.2+l.length
 | [],s=>by simp
 | x :: r, s => by
   have h1:=Uf t r (Yk t s x)
   have h2:=Zek t s x
   simp only [List.foldl_cons,List.length_cons]
   omega
theorem ZkB (l:List Tm) (t:Tm):(ZcT l t).length≤l.length+1:=by
 have:=Uf t l ([],false)
 unfold ZcT
 generalize l.foldl (Yk t) ([],false)=s at this
 obtain ⟨o,d⟩:=s
 cases d<;>simp [b01] at* <;> omega
theorem Zay (t:Tm):∀ (l:List Tm) (s:List Tm×Bool) (x:Tm),x∈(l.foldl (Yk t) s).1→x∈s.1∨x∈l∨x=t
 | [],s,x,h=> .inl h
 | y :: r, s, x, h => by
   rcases Zay t r (Yk t s y) x h with h1|h1|h1
   · unfold Yk at h1
     split at h1
     · split at h1
       · simp at h1; rcases h1 with h1 | h1 | h1
         · exact .inl h1
         · exact .inr (.inr h1)
         · exact .inr (.inl (by simp [h1]))
       · simp at h1; rcases h1 with h1 | h1
         · exact .inl h1
         · exact .inr (.inl (by simp [h1]))
     · simp at h1; rcases h1 with h1 | h1
       · exact .inl h1
       · exact .inr (.inl (by simp [h1]))
   · exact .inr (.inl (List.mem_cons_of_mem _ h1))
   · exact .inr (.inr h1)
theorem ZkL {x:Tm} (h:x∈ZcT l t):x∈l∨x=t:=by
 unfold ZcT at h
 have:=Zay t l ([],false) x
 generalize l.foldl (Yk t) ([],false)=s at this h
 obtain ⟨o,d⟩:=s
 cases d with
 |true=>rcases this h with h|h|h<;>simp_all
 | false =>
   simp at h
   rcases h with h|h
   · rcases this h with h|h|h<;>simp_all
   · exact .inr h
theorem ZbY (t:Tm):∀ (l:List Tm) (s:List Tm×Bool),(s.1≠ []∨s.2=false)→((l.foldl (Yk t) s).1≠ []∨(l.foldl (Yk t) s).2=false)
 | [],_,h=>h
 | y :: r, s, _ => by
   refine ZbY t r (Yk t s y) (.inl ?_)
   unfold Yk
   split
   · split<;>simp
   · simp
theorem Zib (l:List Tm) (t:Tm):ZcT l t≠ []:=by
 unfold ZcT
 have:=ZbY t l ([],false) (.inr rfl)
 generalize l.foldl (Yk t) ([],false)=s at this
 obtain ⟨o,d⟩:=s
 cases d with
 |true=>simpa using this
 |false=>simp
theorem Zac:∀ (l o:List Tm),(l.foldl ZcT o).length≤o.length+l.length
 | [],o=>by simp
 | x :: r, o => by
   have:=Zac r (ZcT o x)
   have:=ZkB o x
   simp only [List.foldl_cons,List.length_cons]
   omega
theorem ZaN:∀ (l o:List Tm) (x:Tm),x∈l.foldl ZcT o→x∈o∨x∈l
 | [],o,x,h=> .inl h
 | y :: r, o, x, h => by
   rcases ZaN r (ZcT o y) x h with h|h
   · rcases ZkL h with h | h
     · exact .inl h
     · exact .inr (by simp [h])
   · exact .inr (List.mem_cons_of_mem _ h)
theorem ZbF:∀ (l o:List Tm),o≠ []→l.foldl ZcT o≠ []
 | [],_,h=>h
 |x::r,o,_=>ZbF r (ZcT o x) (Zib o x)
theorem Zk0:UN l= []↔l= []:=by
 cases l with
 |nil=>simp [UN]
 |cons a r=>simp only [UN,List.foldl_cons,reduceCtorEq,iff_false];exact ZbF r _ (Zib [] a)
def Tm.ground (t:Tm):Bool:=(V8 1 t.all).isEmpty
def Tm.fre1:Tm→Bool
 | .mk k nm _ _ _=>if k=3 then Znv nm else true
mutual
theorem Tm.fre_all:∀ t:Tm,t.fre=t.all.all Tm.fre1
 | .mk k nm s b kids=>by have:=Zgn kids;simp only [Tm.fre,Tm.all,List.all_cons,Tm.fre1,this]
theorem Zgn:∀ l:List Tm,ZgW l=(Us l).all Tm.fre1
 | []=>rfl
 |t::r=>by have:=t.fre_all;have:=Zgn r;simp only [ZgW,Us,List.all_append, *]
end
def Tm.key (t:Tm):Int:=if t.valid≠0 then t.valid else if t.th≠0 then t.th else if t.ground=false then 13 else if t.fre=false then 10 else 0
mutual
def Tm.cl:Tm→Tm
 | .mk k nm s _ kids=> .mk k nm s true (clL kids)
def clL:List Tm→List Tm
 | []=>[]
 |t::r=>t.cl::clL r
end
theorem Zaa (l:List Tm):clL l=l.map Tm.cl:=by
 induction l with
 |nil=>rfl
 |cons a r ih=>simp [clL,ih]
theorem Vj (l:List Tm):(clL l).length=l.length:=by rw [Zaa,List.length_map]
theorem QS (h:l[i]? = some t):clL (l.take (i+1))=clL (l.take i)++ [t.cl]:=by
 simp [Zaa,List.take_add_one,h]
def V1:PV→Option Nat
 | .sl (.tok k) _ _=>some k
 |_=>none
inductive ApV (b:Bool) (es:Nat):List (List PV)→PV→List Nat→Nat→Prop
 |nil (lv:List Nat) (nt:Nat) (h:b=true):ApV b es [] .nils lv nt
 |full (L:List (List PV)) (lv:List Nat) (nt:Nat) (h:b=false) (hB:noB L=true):ApV b es L (.sl .full es L) lv nt
 |tok (L:List (List PV)) (k:Nat) (lv:List Nat) (nt:Nat) (hL:L≠ []) (hk:k∈lv) (hn:k<nt) (hB:noB L=true):ApV b es L (.sl (.tok k) es L) lv nt
theorem VM {M:List (List PV)} (h:noB L=true) (h2:noB M=true):noB (L++M)=true:=by
 simp only [noB,List.all_append,Bool.and_eq_true] at h h2 ⊢
 exact ⟨h,h2⟩
theorem QA:∀ {l:List Nat} {k:Nat},k∈l→∃ l',X6 k l=some l'∧∀ j,j∈l→j≠k→j∈l'
 | x :: r, k, h => by
   simp only [X6]
   by_cases e:x=k
   · rw [if_pos e]
     refine ⟨r,rfl,fun j hj hn=>?_⟩
     rcases List.mem_cons.1 hj with e2|hj
     · exact absurd (e2.trans e) hn
     · exact hj
   · rw [if_neg e]
     have hr:k∈r:=by
      rcases List.mem_cons.1 h with e2|h
      · exact absurd e2.symm e
      · exact h
     obtain ⟨l',h1,h2⟩:=QA hr
     rw [h1]
     refine ⟨x::l',rfl,fun j hj hn=>?_⟩
     rcases List.mem_cons.1 hj with e2|hj
     · rw [e2];exact List.mem_cons_self
     · exact List.mem_cons_of_mem _ (h2 j hj hn)
theorem ApV.under {b:Bool} {es:Nat} {L:List (List PV)} {out:PV} {lv:List Nat} {nt:Nat} (h:ApV b es L out lv nt) (n:Nat):under n out=true:=by
 cases h<;>rfl
theorem ApV.frz1 {b:Bool} {es:Nat} {L:List (List PV)} {out:PV} {lv:List Nat} {nt:Nat} (h:ApV b es L out lv nt):frz1 out=some (slV b es L):=by
 cases h with
 |nil lv nt h=>subst h;rw [Zq];rfl
 | full L lv nt h =>
   subst h
   cases L with
   | nil=>rw [Z8];rfl
   | cons c r=>rw [Zw];rfl
 | tok L k lv nt hL =>
   cases L with
   | nil=>exact absurd rfl hL
   | cons c r=>rw [Zw];rfl
theorem ApV.frzC {b:Bool} {es:Nat} {L:List (List PV)} {out:PV} {lv:List Nat} {nt:Nat} (h:ApV b es L out lv nt) (m:Nat) (H:Heap):frzC m H out=some (slV b es L):=by
 have h1:=h.frz1
 cases h<;>exact h1
theorem ApV.frz2 {b:Bool} {es:Nat} {L:List (List PV)} {out:PV} {lv:List Nat} {nt:Nat} (h:ApV b es L out lv nt) (m:Nat) (H:Heap):frz2 m H out=some (slV b es L):=by
 have h1:=h.frz1
 cases h<;>exact h1
theorem ApV.frz3 {b:Bool} {es:Nat} {L:List (List PV)} {out:PV} {lv:List Nat} {nt:Nat} (h:ApV b es L out lv nt) (m:Nat) (H:Heap):frz3 m H out=some (slV b es L):=by
 have h1:=h.frz1
 cases h<;>exact h1
theorem ApV.frzG {b:Bool} {es:Nat} {L:List (List PV)} {out:PV} {lv:List Nat} {nt:Nat} (h:ApV b es L out lv nt):frzG out=some (slV b es L):=by
 have h1:=h.frz1
 cases h<;>exact h1
theorem ApV.argV {b:Bool} {es:Nat} {L:List (List PV)} {out:PV} {lv:List Nat} {nt:Nat} (h:ApV b es L out lv nt):argV out=slV b es L:=by
 cases h with
 |nil lv nt h=>subst h;rw [Zq];rfl
 | full L lv nt h => subst h; cases L with
   | nil=>rw [Z8];rfl
   | cons c r=>rw [Zw];rfl
 | tok L k lv nt hL => cases L with
   | nil=>exact absurd rfl hL
   | cons c r=>rw [Zw];rfl
structure ElV (es:Nat) (x:PV) (el:List (List PV)):Prop where
 el:∀ H,XK H x=some el
 size:Vw es x=es
theorem ElV.slV (b:Bool) (es:Nat) (el:List (List PV)):ElV es (slV b es el) el:=by
 cases el with
 | nil => cases b
          · rw [Z8];exact ⟨fun _=>rfl,rfl⟩
          · rw [Zq];exact ⟨fun _=>rfl,rfl⟩
 |cons c r=>rw [Zw];exact ⟨fun _=>rfl,rfl⟩
theorem ElV.sl (tl:Tail) (es:Nat) (el:List (List PV)):ElV es (.sl tl es el) el:=⟨fun _=>rfl,rfl⟩
theorem ElV.nils (es:Nat):ElV es .nils []:=⟨fun _=>rfl,rfl⟩
section
variable {E:Env}
structure ApT (E:Env) (t u:TypeId) (es by_:Nat):Prop where
 h:∃ ti ui e f ei,E.T t=some ti∧E.T u=some ui∧ti.tk= .slice e∧ui.tk= .slice f∧E.T e=some ei∧ei.size=es∧ei.bytes=by_∧0<ei.size∧ei.zero.cells.length=ei.size
theorem XL {t u : TypeId} (hT : ApT E t u es by_) {s x : PV} (hx : ElV es x el) (hok : el.all (fun c => c.all Z3) = true) (hs : Vw es s = es) (ho : Zm3 s = true) (H : Heap) :
  Wl E t u s x H=some (es,by_,el):=by
 obtain ⟨ti,ui,e,f,ei,h1,h2,h3,h4,h5,h6,h7,h8,h9⟩:=hT.h
 simp only [Wl,h1,h2,h3,h4,h5]
 subst h6 h7
 rw [if_pos ⟨h8,h9,hs,hx.size⟩,hx.el H]
 simp only [hok,ho,and_self,if_true]
theorem ApV.app {out : PV} {lv : List Nat} {nt : Nat} (h : ApV b es L out lv nt) {t u : TypeId} (hT : ApT E t u es by_) {x : PV} (hx : ElV es x el)
  (hok:el.all (fun c=>c.all Z3)=true) (hf:Wf L.length el.length by_=true) (hnb:noB el=true) :
  ∃ out' lv' nt',(∀ bx ro,Yg E t u out x ⟨bx,ro,lv,nt⟩=some (out',⟨bx,ro,lv',nt'⟩))∧ApV b es (L++el) out' lv' nt'∧
   ∀ b2 es2 L2 out2,ApV b2 es2 L2 out2 lv nt→(V1 out2=none∨V1 out2≠V1 out)→ApV b2 es2 L2 out2 lv' nt'∧(V1 out2=none∨V1 out2≠V1 out'):=by
 have hs:Vw es out=es:=by cases h<;>rfl
 have ho:Zm3 out=true:=by cases h<;>rfl
 cases el with
 | nil =>
   refine ⟨out,lv,nt,fun bx ro=>?_,by rw [List.append_nil];exact h,fun b2 es2 L2 out2 h2 hne=>⟨h2,hne⟩⟩
   simp only [Yg,XL hT hx hok hs ho]
 | cons y yr =>
   have fresh:∀ (lv':List Nat),(∀ j,j∈lv→some j≠V1 out→j∈lv')→∀ b2 es2 L2 out2,ApV b2 es2 L2 out2 lv nt→(V1 out2=none∨V1 out2≠V1 out)→ApV b2 es2 L2 out2 (nt::lv') (nt+1)∧(V1 out2=none∨V1 out2≠V1 (.sl (.tok nt) es (L++y::yr))):=fun lv' hl b2 es2 L2 out2 h2 hne=>by
    cases h2 with
    | nil _ _ hb=>exact ⟨.nil _ _ hb,.inl rfl⟩
    | full _ _ _ hb hB=>exact ⟨.full _ _ _ hb hB,.inl rfl⟩
    | tok _ k _ _ hL hk hn hB =>
      have hne2:some k≠V1 out:=by
       rcases hne with h|h
       · simp [V1] at h
       · exact h
      refine ⟨.tok _ k _ _ hL (List.mem_cons_of_mem _ (hl k hk hne2)) (by omega) hB,.inr ?_⟩
      simp only [V1,ne_eq,Option.some.injEq]
      omega
   cases h with
   | nil _ _ hb =>
     refine ⟨.sl (.tok nt) es (y::yr),nt::lv,nt+1,fun bx ro=>?_,.tok _ nt _ _ (by simp) List.mem_cons_self (Nat.lt_succ_self _) hnb,fresh lv fun j hj _=>hj⟩
     simp only [Yg,XL hT hx hok hs ho,Xz,List.nil_append]
     exact if_pos (by rw [hf,ZaF hnb];rfl)
   | full _ _ _ hb hB =>
     refine ⟨.sl (.tok nt) es (L++y::yr),nt::lv,nt+1,fun bx ro=>?_,.tok _ nt _ _ (by simp) List.mem_cons_self (Nat.lt_succ_self _) (VM hB hnb),fresh lv fun j hj _=>hj⟩
     simp only [Yg,XL hT hx hok hs ho,Xz]
     rw [if_pos (by rw [hf,ZaF (VM hB hnb)];rfl)]
   | tok _ k _ _ hL hk hn hB =>
     obtain ⟨l',h1,h2⟩:=QA hk
     refine ⟨.sl (.tok nt) es (L++y::yr),nt::l',nt+1,fun bx ro=>?_,.tok _ nt _ _ (by simp) List.mem_cons_self (Nat.lt_succ_self _) (VM hB hnb),fresh l' fun j hj hne=>h2 j hj fun e=>hne (by rw [e];rfl)⟩
     simp only [Yg,XL hT hx hok hs ho]
     rw [if_pos (by rw [hf,ZaF (VM hB hnb),hnb,Bool.or_true];rfl),h1]
end
open Go.RowKit
section
variable {T:TypeId→Option TI}
theorem Vp {x:TypeId} (h:Sh T x cs) {k:IntKind} (ht:T x=some ti) (hk:ti.tk= .int k):∃ n,cs= [.int k n]∧(Lit.int k n).wf=true:=by
 cases h with
 |int h' hk' hn=>rw [ht] at h';cases h';rw [hk] at hk';cases hk';exact ⟨_,rfl,hn⟩
 |bool h' hk'=>rw [ht] at h';cases h';rw [hk] at hk';cases hk'
 |str h' hk'=>rw [ht] at h';cases h';rw [hk] at hk';cases hk'
 |nils h' hk'=>rw [ht] at h';cases h';rw [hk] at hk';cases hk'
 |sl h' hk'=>rw [ht] at h';cases h';rw [hk] at hk';cases hk'
 |struct h' hk'=>rw [ht] at h';cases h';rw [hk] at hk';cases hk'
theorem ZfA {x:TypeId} (h:Sh T x cs) (ht:T x=some ti) (hk:ti.tk= .string):∃ s,cs= [.str s]∧s.length≤maxLen:=by
 cases h with
 |int h' hk'=>rw [ht] at h';cases h';rw [hk] at hk';cases hk'
 |bool h' hk'=>rw [ht] at h';cases h';rw [hk] at hk';cases hk'
 |str h' hk' hs=>exact ⟨_,rfl,hs⟩
 |nils h' hk'=>rw [ht] at h';cases h';rw [hk] at hk';cases hk'
 |sl h' hk'=>rw [ht] at h';cases h';rw [hk] at hk';cases hk'
 |struct h' hk'=>rw [ht] at h';cases h';rw [hk] at hk';cases hk'
theorem Zh9:∀ (el:List (List PV)),(∀ c,c∈el→∃ t:Tm,c=t.cells∧t.Ok)→∃ kids:List Tm,el=Za kids∧∀ t,t∈kids→t.Ok
 | [],_=>⟨[],rfl,fun t h=>absurd h (by simp)⟩
 | c :: r, h => by
   obtain ⟨t,ht,ho⟩:=h c List.mem_cons_self
   obtain ⟨kids,hk,hko⟩:=Zh9 r fun c hc=>h c (List.mem_cons_of_mem _ hc)
   refine ⟨t::kids,by simp only [Za,ht,hk],fun u hu=>?_⟩
   rcases List.mem_cons.1 hu with rfl|hu
   · exact ho
   · exact hko u hu
theorem Z1 (es:Nat) (el:List (List PV)):slV false es el= .sl .none es el:=by
 cases el with
 |nil=>exact Z8 es
 |cons c r=>exact Zw false es c r
theorem ZtD {l:List α} (h:l.length=4):∃ a b c d,l= [a,b,c,d]:=by
 match l,h with
 | [a,b,c,d],_=>exact ⟨a,b,c,d,rfl⟩
theorem Zch {i s l t : TypeId} {ii si li : TI} (hi : T i = some ii) (ki : ii.tk = .int .i64) (zi : ii.size = 1) (hs : T s = some si) (ks : si.tk = .string) (zs : si.size = 1) (hl : T l = some li) (kl : li.tk = .slice t) (zl : li.size = 1)
  (ht:T t=some ti) (kt:ti.tk= .struct [(0,i),(1,s),(2,i),(3,l)]) (zt:ti.size=4) {x:TypeId} (h:Sh T x cs) :
  (x=t→∃ tm:Tm,cs=tm.cells∧tm.Ok)∧(x=l→∃ b kids,cs= [slV b 4 (Za kids)]∧(∀ k,k∈kids→k.Ok)∧kids.length≤maxLen):=by
 induction h with
 |bool h' hk'=>exact ⟨fun e=>(by subst e;rw [ht] at h';cases h';rw [kt] at hk';cases hk'),fun e=>(by subst e;rw [hl] at h';cases h';rw [kl] at hk';cases hk')⟩
 |int h' hk'=>exact ⟨fun e=>(by subst e;rw [ht] at h';cases h';rw [kt] at hk';cases hk'),fun e=>(by subst e;rw [hl] at h';cases h';rw [kl] at hk';cases hk')⟩
 |str h' hk'=>exact ⟨fun e=>(by subst e;rw [ht] at h';cases h';rw [kt] at hk';cases hk'),fun e=>(by subst e;rw [hl] at h';cases h';rw [kl] at hk';cases hk')⟩
 |nils h' hk'=>exact ⟨fun e=>(by subst e;rw [ht] at h';cases h';rw [kt] at hk';cases hk'),fun e=>⟨true,[],by rw [Za,Zq],fun k hk=>absurd hk (by simp),Nat.zero_le _⟩⟩
 | @sl x' ti' e' ei' el' h' hk' he hlen hel ih =>
   refine ⟨fun e=>(by subst e;rw [ht] at h';cases h';rw [kt] at hk';cases hk'),fun e=>?_⟩
   subst e
   rw [hl] at h';cases h'
   rw [kl] at hk';cases hk'
   rw [ht] at he;cases he
   obtain ⟨kids,hk,hok⟩:=Zh9 el' fun c hc=>(ih c hc).1 rfl
   refine ⟨false,kids,by rw [Z1, ← hk,zt],hok,?_⟩
   rw [hk,Zb] at hlen
   exact hlen
 | @struct x' ti' fs' cs' h' hk' hlen hf ih =>
   refine ⟨fun e=>?_,fun e=>(by subst e;rw [hl] at h';cases h';rw [kl] at hk';cases hk')⟩
   subst e
   rw [ht] at h';cases h'
   rw [kt] at hk';cases hk'
   rw [zt] at hlen
   obtain ⟨a,b,c,d,rfl⟩:=ZtD hlen
   have q0:=hf 0 i ii (by simp) hi
   have q1:=hf 1 s si (by simp) hs
   have q2:=hf 2 i ii (by simp) hi
   have q3:=(ih 3 l li (by simp) hl).2 rfl
   rw [zi] at q0 q2
   rw [zs] at q1
   rw [zl] at q3
   obtain ⟨n0,e0,w0⟩:=Vp q0 hi ki
   obtain ⟨n1,e1,w1⟩:=ZfA q1 hs ks
   obtain ⟨n2,e2,w2⟩:=Vp q2 hi ki
   obtain ⟨b3,kids,e3,w3,w4⟩:=q3
   simp only [List.drop_zero,List.drop_succ_cons,List.take_succ_cons,List.take_zero,List.cons.injEq,and_true] at e0 e1 e2 e3
   subst e0 e1 e2 e3
   exact ⟨.mk n0 n1 n2 b3 kids,rfl,.mk w0 w2 w1 w4 w3⟩
end
section
variable {E:Env} {P:Program} {w:World}
theorem ZaE (h:∀ k,k<w.heap.size→w'.heap[k]? = w.heap[k]?) {p:MemPlace} (hp:p.block<w.heap.size):w.sameAt w' p:=by
 cases p with
 |cell b o=>exact World.cell?_of_block (w:=w) (h b hp)
 |map b=>exact h b hp
theorem Ziv {S:Vx} {pcs:List PV} {cs:Array Value} (h:W5 S pcs cs.toList):V0 S (.agg pcs) (.agg cs):=
 .agg _ _ (by have:=h.1;simpa using this) fun i hi=>by
  have:=h.2 i hi (by rw [h.1];exact hi)
  simpa using this
end
abbrev ZnZ:=List UInt8
def Y8 (l:List ZnZ):List (List PV):=l.map fun s=>[.str s]
theorem XN (l:List ZnZ):(Y8 l).length=l.length:=by simp [Y8]
theorem QQ {l:List ZnZ} {x:ZnZ} (h:l[i]? = some x):(Y8 l)[i]? = some [.str x]:=by simp [Y8,h]
structure Mo where
 kind:Int
 num:Int
 role:Int
 an:Bool
 agents:List ZnZ
 goal:Int
 tn:Bool
 terms:List Tm
def Mo.cells (m:Mo):List PV:=[.int .i64 m.kind,.int .i64 m.num,.int .i64 m.role,slV m.an 1 (Y8 m.agents),.int .i64 m.goal,slV m.tn 4 (Za m.terms)]
structure Mo.Ok (m:Mo):Prop where
 kind:(Lit.int .i64 m.kind).wf=true
 num:(Lit.int .i64 m.num).wf=true
 role:(Lit.int .i64 m.role).wf=true
 goal:(Lit.int .i64 m.goal).wf=true
 al:m.agents.length≤maxLen
 ags:∀ s,s∈m.agents→s.length≤maxLen
 tl:m.terms.length≤maxLen
 ts:∀ t,t∈m.terms→t.Ok
theorem Zl (a b:List Tm):Za (a++b)=Za a++Za b:=by simp [YN]
theorem Zs (l:List Tm):(Za l).all (fun c=>c.all Z3)=true:=by
 rw [YN,List.all_map,List.all_eq_true]
 rintro ⟨k,nm,s,b,kids⟩ _
 simp only [Function.comp,Tm.cells,List.all_cons,List.all_nil,Yf]
 rfl
theorem Zr2 {l:List α} (h:l.length=6):∃ a b c d e f,l= [a,b,c,d,e,f]:=by
 match l,h with
 | [a,b,c,d,e,f],_=>exact ⟨a,b,c,d,e,f,rfl⟩
open Go.RowKit Go.Sort Go.Proofs
def gtT (l:List Tm) (i:Nat):Tm:=(l[i]?).getD (l.headD .zero)
theorem ZlY (h:i<l.length):gtT l i=l[i]:=by simp [gtT,h]
theorem Xd (hne:l≠ []) (i:Nat):gtT l i∈l:=by
 unfold gtT
 cases h:l[i]? with
 |some x=>exact List.mem_of_getElem? h
 | none => cases l with
   | nil=>exact absurd rfl hne
   | cons a r=>simp
def Zbe (l:List Tm) (i j:Nat):Int:=(gtT l i).cmp (gtT l j)
def XR (l:List Tm):Array Nat:=pdq (ltOf (Zbe l)) (Array.range l.length) 0 l.length (Lib.bitLen l.length) true true
def Uo (l:List Tm):List Tm:=(XR l).toList.map (gtT l)
theorem ZfB {c:Nat→Nat→Int} {x y:Nat}:ltOf c x y=true↔c x y<0:=by unfold ltOf;exact decide_eq_true_iff
theorem ZfQ {c:Nat→Nat→Int} {x y:Nat}:ltOf c x y=false↔0≤c x y:=by
 rw [← Bool.not_eq_true,ZfB];omega
theorem ZnN (hne:l≠ []) (h:∀ t,t∈l→t.size≤N):SWO (ltOf (Zbe l)) where
 irrefl x:=by
  have hx:=h _ (Xd hne x)
  have:=(Zar N).anti _ _ hx hx
  rw [ZfQ]
  simp only [Zbe]
  omega
 trans x y z h1 h2:=by
  rw [ZfB] at *
  simp only [Zbe] at *
  exact (Zar N).strict1 (h _ (Xd hne x)) (h _ (Xd hne y)) (h _ (Xd hne z)) h1 (by omega)
 ntrans x y z h1 h2:=by
  rw [ZfQ] at *
  simp only [Zbe] at *
  have a1:=(Zar N).anti _ _ (h _ (Xd hne x)) (h _ (Xd hne y))
  have a2:=(Zar N).anti _ _ (h _ (Xd hne y)) (h _ (Xd hne z))
  have a3:=(Zar N).anti _ _ (h _ (Xd hne x)) (h _ (Xd hne z))
  have:=(Zar N).tr _ _ _ (h _ (Xd hne z)) (h _ (Xd hne y)) (h _ (Xd hne x)) (by omega) (by omega)
  omega
theorem Zat (hne:l≠ []) (h:∀ t,t∈l→t.size≤N):PermIn 0 l.length (Array.range l.length) (XR l)∧SortedIn (ltOf (Zbe l)) 0 l.length (XR l):=
 pdq_sorts (ltOf (Zbe l)) (ZnN hne h) (Array.range l.length) 0 l.length (Lib.bitLen l.length) true true (Nat.zero_le _) (by simp) (.inl rfl)
theorem ZaK (hne:l≠ []) (h:∀ t,t∈l→t.size≤N):(XR l).size=l.length:=by simpa using (Zat hne h).1.1
theorem ZcR (l:List Tm):(List.range l.length).map (gtT l)=l:=by
 apply List.ext_getElem
 · simp
 · intro i h1 h2;simp [ZlY h2]
theorem Zg9 (hne:l≠ []) (h:∀ t,t∈l→t.size≤N):(Uo l).Perm l:=by
 have h1:=(Zat hne h).1.2.2
 have h2:=ZaK hne h
 have e1:((XR l).extract 0 l.length).toList=(XR l).toList:=by rw [← h2];simp
 have e2:((Array.range l.length).extract 0 l.length).toList=List.range l.length:=by simp
 rw [e1,e2] at h1
 have:=h1.map (gtT l)
 rwa [ZcR] at this
theorem Znl (hh : ∀ k, k < W.heap.size → w'.heap[k]? = W.heap[k]?) (hs : W.heap.size ≤ w'.heap.size) (h1 : w'.os = W.os) (h2 : w'.output = W.output) (h3 : w'.tape = W.tape) (h4 : W.drawn ≤ w'.drawn) :
  ∃ q os',w'=grow (W.drewN q) os':=by
 refine ⟨w'.drawn-W.drawn,w'.heap.extract W.heap.size w'.heap.size,?_⟩
 have hheap:w'.heap=W.heap++w'.heap.extract W.heap.size w'.heap.size:=by
  refine Array.ext_getElem? fun k=>?_
  rw [Array.getElem?_append]
  split
  · rename_i h;exact hh k h
  · rename_i h
    rw [Array.getElem?_extract]
    split
    · congr 1;omega
    · rw [Array.getElem?_eq_none (by omega)]
 have hd:(W.drewN (w'.drawn-W.drawn)).drawn=w'.drawn:=by
  have:(W.drewN (w'.drawn-W.drawn)).drawn=W.drawn+(w'.drawn-W.drawn):=rfl
  omega
 obtain ⟨a,b,c,d,e⟩:=w'
 simp only at h1 h2 h3 h4 hheap hd
 subst h1 h2 h3
 have:(grow (W.drewN (c-W.drawn)) (a.extract W.heap.size a.size))=⟨W.heap++a.extract W.heap.size a.size,W.tape,W.drawn+(c-W.drawn),W.os,W.output⟩:=rfl
 rw [this, ← hheap]
 congr 1
 omega
section
variable {E E1:Env} {P:Program}
def wGm (w:World):Gh:={S:=wS w,σ:=fun _=>none,τ:=fun _=>none,κ:=fun _=>0,mono:=true}
theorem Zmq (w:World):Inv (wGm w) hNil w:=by
 have h:=ZlM w
 exact ⟨h.st,fun id es el h=>by simp [hNil] at h,fun id es h=>by simp [hNil] at h,fun id T cs h=>by simp [hNil] at h,fun i j b h=>(Ws h).elim,fun _ _=>rfl,fun _ _=>rfl,fun t b lo hi h=>by simp [hNil] at h,fun t t' b lo hi lo' hi2 h=>by simp [hNil] at h,List.nodup_nil,fun t h=>by simp [hNil] at h,fun id b h=>by simp [wGm] at h,Nat.le_refl _,fun id b c T m h=>(Ws h).elim⟩
theorem Zg2 (hf : FnOk P f fn c) (hG : GOk E1 (wGm W)) {k : IntKind} (h : CallOk E1 P f args hNil (.int k n) hNil) {vals : Array Value} (hv : W5 (wS W) args vals.toList) :
  Calls P f vals W fun e w'=>e= .returned (.int k n)∧∃ q os',w'=grow (W.drewN q) os':=by
 have hu:=h (wGm W) W vals (Zmq W) hG ⟨hv.1,fun i h1 h2=> .pure _ _ (hv.2 i h1 h2)⟩
 rw [ZY hf] at hu
 exact Calls.mono hu fun e w' ⟨v,e1,g',hp,_,kp⟩=>by
  obtain rfl:=hp.int_inv
  exact ⟨e1,Znl (fun i hi=>kp.heap i hi (VP _ i)) kp.size kp.so.1 kp.so.2.1 kp.so.2.2.1 (kp.so.2.2.2 rfl)⟩
theorem V.fn0_inv {v:Value} (h:V g (.fn f []) v):v= .func (.func f) #[] #[]:=by
 cases h with
 | pure _ _ h => cases h with
   | fn _ _ vs hl _ =>
     have:vs= #[]:=Array.size_eq_zero_iff.1 hl
     rw [this]
 | fn _ _ vs hl _ =>
   have:vs= #[]:=Array.size_eq_zero_iff.1 hl
   rw [this]
theorem Zjx (t:Tm):t.cells.all Z3=true:=by
 obtain ⟨k,nm,s,b,kids⟩:=t
 simp only [Tm.cells,List.all_cons,List.all_nil,Yf]
 rfl
theorem Zmx {p:PV} (h:p∈t.cells):frz1 p=some p:=by
 obtain ⟨k,nm,s,b,kids⟩:=t
 simp only [Tm.cells,List.mem_cons,List.not_mem_nil,or_false] at h
 rcases h with rfl|rfl|rfl|rfl
 · rfl
 · rfl
 · rfl
 · exact Zu _ _ _
theorem Zmr {g : FuncId} {fng : Func} {cg : Code} (hf : FnOk P f fn c) (hfg : FnOk P g fng cg) (hG1 : E1.G = E.G ∧ E1.I = E.I) (hm1 : E1.mono = true)
  (hK : ∀ (enc : Nat → List Value) (_ : ∀ x, (enc x).length = 4) (_ : ∀ x, ∀ v ∈ enc x, v.oneCell' = true) (cf : Nat → Nat → Int) (_ : SWO (ltOf cf)) (blk off cap : Nat) (d : Array Nat) (w : World)
    (_:∀ args w,(callFunc g args).run P w= .ok (.enter g args) w) (_:CmpLays P g #[] enc 4 cf blk off d.size w) (_:HoldsK enc 4 w blk off d) (_:blk<w.heap.size) (_:d.size<4611686018427387904),
    Calls P f #[.slice (some ⟨blk,off,none⟩) d.size cap,.func (.func g) #[] #[]] w fun e w'=>
     e= .returned (.tuple #[])∧∃ n os,w'=sortWorldK enc 4 w blk off n (pdq (ltOf cf) d 0 d.size (Lib.bitLen d.size) true true) os)
 (hne:l≠ []) (hsz:∀ t,t∈l→t.size≤N) (hcmp:∀ a b,a∈l→b∈l→CallOk E1 P g [.agg a.cells,.agg b.cells] hNil (.int .i64 (a.cmp b)) hNil) (hlen:l.length<4611686018427387904)
 {id:Nat} (hb:H.bx[id]? = some (.cells 4 (Za l))) (hro:H.ro≤id) :
  CallOk E P f [.own id 4 0 l.length,.fn g []] H (.tup []) {H with bx:=H.bx.set id (.cells 4 (Za (Uo l)))}:=by
 intro gh w vals hi hg hv
 obtain ⟨v0,v1,rfl,e0,e1⟩:=VQ hv
 have hpos:0<l.length:=List.length_pos_iff.2 hne
 obtain ⟨b,cap,a,hσ,hcap,ha,_,hκ,rfl⟩:=e0.own_inv2
 obtain rfl:=ha (.inl hpos)
 obtain rfl:=e1.fn0_inv
 obtain ⟨b',C,T,h1,hheap,hw4,hsize,hcell,hS⟩:=hi.bx _ _ _ hb
 rw [hσ] at h1;cases h1
 rw [Zb] at hsize
 have hbl:=hi.sz _ _ hσ
 have cl4:∀ (t:Tm),t.cells.length=4:=fun ⟨_,_,_,_,_⟩=>rfl
 have hget:∀ i (h:i<l.length) j,j<4→∃ v p,C[i*4+j]? = some v∧l[i].cells[j]? = some p∧V0 gh.S p v:=fun i h j hj=>by
  have hel:i<(Za l).length:=by rw [Zb];exact h
  have ee:(Za l)[i]=l[i].cells:=by simp [YN]
  have hjl:j<((Za l)[i]).length:=by rw [ee,cl4];exact hj
  obtain ⟨v,hv1,hv2⟩:=hcell i hel j hjl
  have hg1:l[i].cells[j]? = some ((Za l)[i][j]):=by rw [← ee];exact List.getElem?_eq_getElem hjl
  exact ⟨v,_,hv1,hg1,Qh hv2 (Zmx (List.mem_of_getElem? hg1))⟩
 let ixc:Nat→Nat:=fun i=>if i<l.length then i else 0
 have ixl:∀ i,ixc i<l.length:=fun i=>by simp only [ixc];split<;>assumption
 have ixg:∀ i,gtT l i=l[ixc i]'(ixl i):=fun i=>by
  by_cases e:i<l.length
  · have : ixc i = i := by simp [ixc, e]
    simp only [this,ZlY e]
  · have : ixc i = 0 := by simp [ixc, e]
    simp only [this]
    unfold gtT
    rw [List.getElem?_eq_none (by omega)]
    cases l with
    | nil=>exact absurd rfl hne
    | cons a r=>rfl
 let enc:Nat→List Value:=fun i=>(List.range 4).map fun j=>C.getD (ixc i*4+j) undef
 have encl:∀ x,(enc x).length=4:=fun x=>by simp [enc]
 have encg:∀ x j,j<4→∃ v p,C[ixc x*4+j]? = some v∧(enc x)[j]? = some v∧(gtT l x).cells[j]? = some p∧V0 gh.S p v:=fun x j hj=>by
  obtain ⟨v,p,q1,q2,q3⟩:=hget (ixc x) (ixl x) j hj
  refine ⟨v,p,q1,?_,by rw [ixg x];exact q2,q3⟩
  have:C.getD (ixc x*4+j) undef=v:=by
   simp only [Array.getD_eq_getD_getElem?,q1,Option.getD_some]
  simp only [enc,List.getElem?_map,List.getElem?_range hj,Option.map_some,this]
 have enc1:∀ x,∀ v∈enc x,v.oneCell'=true:=fun x v hvx=>by
  obtain ⟨j,hj,rfl⟩:=List.mem_iff_getElem.1 hvx
  rw [encl] at hj
  obtain ⟨v,p,q1,q2,q3,q4⟩:=encg x j hj
  rw [List.getElem?_eq_getElem (by rw [encl];exact hj)] at q2
  simp only [Option.some.injEq] at q2
  rw [q2]
  exact X9 (g:=gh) (.pure _ _ q4) (List.all_eq_true.1 (Zjx (gtT l x)) _ (List.mem_of_getElem? q3))
 have hflat:∀ (d:Array Nat) t,t<d.size*4→(flatK enc 4 d)[t]! =C.getD (ixc d[t / 4]!*4+t % 4) undef:=fun d t ht=>by
  rw [get_flatK _ _ _ t ht]
  obtain ⟨v,_,q1,q2,_⟩:=encg d[t / 4]! (t % 4) (Nat.mod_lt _ (by omega))
  have:(enc d[t / 4]!)[t % 4]! =v:=by
   rw [List.getElem!_eq_getElem?_getD,q2];rfl
  rw [this,Array.getD_eq_getD_getElem?,q1];rfl
 have hH:HoldsK enc 4 w b 0 (Array.range l.length):=fun j hj=>by
  have hj':j<l.length*4:=by simpa using hj
  have hjc:j<C.size:=by omega
  have hq:j / 4<l.length:=by omega
  have e:(flatK enc 4 (Array.range l.length))[j]! =C[j]:=by
   rw [hflat _ j (by simpa using hj')]
   have r:(Array.range l.length)[j / 4]! =j / 4:=by
    rw [getElem!_pos _ _ (by simpa using hq)];simp
   rw [r]
   have:ixc (j / 4)=j / 4:=by simp [ixc,hq]
   rw [this,show j / 4*4+j % 4=j by omega]
   simp [Array.getD,hjc]
  refine ⟨?_,?_⟩
  · rw [Nat.zero_add, e]
    simp [World.cell?,hheap,hjc]
  · simp [World.frozen?,hheap]
 have Wcell:∀ (m:Nat) (os:Array Obj) (dk:Array Nat) b' o v,gh.S b' o=some v→(sortWorldK enc 4 w b 0 m dk os).cell? ⟨b',o,none⟩=some v:=fun m os dk b' o v hs=>by
  have hb':b'≠b:=fun e=>by subst e;rw [hS] at hs;cases hs
  have hlt:=hi.S_lt hs
  have hst:=hi.st _ _ _ hs
  have hp:(putRowK enc 4 (Sort.ahead w m) b 0 dk).cell? ⟨b',o,none⟩=some v:=by
   unfold putRowK
   rw [cell?_putRow_other _ _ _ _ _ _ (.inl hb')]
   exact hst
  unfold sortWorldK grow
  simp only [World.cell?] at hp ⊢
  rw [Array.getElem?_append_left (by unfold putRowK;rw [Go.Proofs.size_putRow];exact hlt)]
  exact hp
 have hC:CmpLays P g #[] enc 4 (Zbe l) b 0 (Array.range l.length).size w:=fun m os dk _ x y=>by
  have hgo:GOk E1 (wGm (sortWorldK enc 4 w b 0 m dk os)):=⟨fun k cs hk=>(hg.1 k cs (by rw [← hG1.1];exact hk)).mono fun b' o v hs=>Wcell m os dk b' o v hs,fun _=>hm1,fun k hk=>let ⟨t,p,e⟩:=hg.2.2 k (by rw [← hG1.2];exact hk);⟨t,p,Wcell m os dk _ _ _ e⟩⟩
  have agg:∀ z,V0 (wS (sortWorldK enc 4 w b 0 m dk os)) (.agg (gtT l z).cells) (.agg (enc z).toArray):=fun z=>
   .agg _ _ (by simp [encl,cl4]) fun i hi'=>by
    rw [cl4] at hi'
    obtain ⟨v,p,_,q2,q3,q4⟩:=encg z i hi'
    have e1:(enc z).toArray[i]'(by simp [encl];exact hi')=v:=by
     rw [List.getElem?_eq_getElem (by rw [encl];exact hi')] at q2
     simpa using q2
    have e2:(gtT l z).cells[i]'(by rw [cl4];exact hi')=p:=by
     rw [List.getElem?_eq_getElem (by rw [cl4];exact hi')] at q3
     simpa using q3
    rw [e1,e2]
    exact q4.mono fun b' o v hs=>Wcell m os dk b' o v hs
  have:=Zg2 hfg hgo (hcmp _ _ (Xd hne x) (Xd hne y)) (vals:= #[.agg (enc x).toArray,.agg (enc y).toArray]) ⟨rfl,fun i h1 h2=>by
   match i,h1 with
   | 0,_=>exact agg x
   | 1,_=>exact agg y⟩
  exact this
 rw [ZY hf]
 have call:=hK enc encl enc1 (Zbe l) (ZnN hne hsz) b 0 cap (Array.range l.length) w (fun args w=>ZY hfg args) hC hH hbl (by simpa using hlen)
 have er:(Array.range l.length).size=l.length:=by simp
 rw [er] at call
 simp only [Nat.zero_mul]
 refine Calls.mono call fun e w' ⟨he,n,os,hw⟩=>?_
 subst hw
 have hd':pdq (ltOf (Zbe l)) (Array.range l.length) 0 l.length (Lib.bitLen l.length) true true=XR l:=rfl
 rw [hd']
 have hds:=ZaK hne hsz
 let C':Array Value:=C.mapIdx fun k y=>if 0≤k∧k<0+(flatK enc 4 (XR l)).size then (flatK enc 4 (XR l))[k-0]! else y
 have hat:(putRowK enc 4 (Sort.ahead w n) b 0 (XR l)).heap[b]? = some (.cells C' T (0,0)):=by
  unfold putRowK putRow mapBlock
  simp only [heap_ahead,Array.getElem?_modify,hheap,if_true,Option.map_some,onCells,putCells,C',id_eq]
 have hoth:∀ k,k≠b→(putRowK enc 4 (Sort.ahead w n) b 0 (XR l)).heap[k]? = w.heap[k]? :=fun k hk=>by
  unfold putRowK putRow mapBlock
  simp only [heap_ahead,Array.getElem?_modify]
  rw [if_neg (Ne.symm hk)]
 have hnew:∀ i (h:i<l.length) j,j<4→∃ v p,C'[i*4+j]? = some v∧(gtT l (XR l)[i]!).cells[j]? = some p∧V0 gh.S p v:=fun i h j hj=>by
  have ht:i*4+j<(XR l).size*4:=by omega
  obtain ⟨v,p,q1,_,q3,q4⟩:=encg (XR l)[i]! j hj
  refine ⟨v,p,?_,q3,q4⟩
  have hlt:i*4+j<C.size:=by omega
  simp only [C',Array.getElem?_mapIdx]
  rw [Array.getElem?_eq_getElem hlt,Option.map_some,if_pos ⟨Nat.zero_le _,by rw [size_flatK];omega⟩,Nat.sub_zero,hflat _ _ ht,show (i*4+j) / 4=i by omega,show (i*4+j) % 4=j by omega,Array.getD_eq_getD_getElem?,q1]
  rfl
 have hsl:(Uo l).length=l.length:=by simp [Uo,hds]
 obtain ⟨j1,j2⟩:=Qk (w':=putRowK enc 4 (Sort.ahead w n) b 0 (XR l)) hi hro hb trivial hσ hS hoth (by unfold putRowK;rw [Go.Proofs.size_putRow];rfl) hat (fun a=>by unfold putRowK;rw [frozen?_putRow];rfl) (bo:= .cells 4 (Za (Uo l)))
  (fun es el h => by
    cases h
    refine ⟨C',T,rfl,fun i hi'=>?_,?_,fun i hi' j hj=>?_⟩
    · simp only [YN,List.getElem_map,cl4]
    · rw [Zb, hsl]
      have:C'.size=C.size:=by simp [C']
      omega
    · rw [Zb, hsl] at hi'
      have ee:(Za (Uo l))[i]'(by rw [Zb,hsl];exact hi')=(gtT l (XR l)[i]!).cells:=by
       simp only [YN,List.getElem_map,Uo]
       congr 2
       rw [getElem!_pos _ _ (by omega)]
       simp
      rw [ee,cl4] at hj
      obtain ⟨v,p,z1,z2,z3⟩:=hnew i hi' j hj
      refine ⟨v,z1,.pure _ _ ?_⟩
      have e2:(Za (Uo l))[i][j]=p:=by
       have:((Za (Uo l))[i])[j]? = some p:=by rw [ee];exact z2
       rw [List.getElem?_eq_getElem] at this
       simpa using this
      rw [e2]
      exact z3)
  (fun es h => by cases h) (fun c1 T1 m1 h => by
    cases h
    have:=hi.rm id b C T _ ⟨_,hb,trivial⟩ hσ hheap
    have hq:C'.size=C.size:=by simp [C']
    omega) ⟨rfl,rfl,rfl,fun _=>Nat.le_add_right _ _⟩
 obtain ⟨i1,i2⟩:=ZaC (w':=grow (putRowK enc 4 (Sort.ahead w n) b 0 (XR l)) os) j1 (fun k hk=>by unfold grow;rw [Array.getElem?_append_left hk]) (by unfold grow;simp) ⟨rfl,rfl,rfl,fun _=>Nat.le_refl _⟩
 exact ⟨_,he,gh,.tup _ _ rfl (fun i hi=>absurd hi (by simp)),i1,j2.trans hi i2 (by simp)⟩
end
def Xi (l:List Bs):Bool:=l.any fun s=> !ZK s
def QC (n:Int):Bool:=decide (n<0)||decide (9999<n)
def Tm.isB (t:Tm) (nm:Bs) (n:Nat):Bool:=match t with
 | .mk k m _ _ l=>decide (k=3)&&((m==nm)&&decide (l.length=n))
structure Cred where
 sub:Bs
 key:Tm
 iss:Bool
 pn:Bool
 per:List Bs
 en:Bool
 exc:List Bs
 ser:Int
 fr:Int
 till:Int
variable {x:Cred}
def Cred.cells (x:Cred):List PV:= .str x.sub::(x.key.cells++ [.bool x.iss,slV x.pn 1 (Y8 x.per),slV x.en 1 (Y8 x.exc),.int .i64 x.ser,.int .i64 x.fr,.int .i64 x.till])
def Cred.valid (x:Cred):Int:=
 if ZK x.sub=false then 2 else if x.key.key≠0 then x.key.key else if x.key.isB [112,107] 1=false then 10 else
 if 4<x.per.length∨4<x.exc.length then 3 else if Xi x.per=true∨Xi x.exc=true then 2 else
 if x.iss=false∧0<x.per.length+x.exc.length then 1 else if [x.ser,x.fr,x.till].any QC=true∨x.till<x.fr then 7 else 0
def Zli (l:List Int):List (List PV):=l.map fun n=>[.int .i64 n]
theorem ZkG (l:List Int):(Zli l).length=l.length:=by simp [Zli]
theorem ZkN {l:List Int} {x:Int} (h:l[i]? = some x):(Zli l)[i]? = some [.int .i64 x]:=by simp [Zli,h]
def Yq (nm:Bs) (s:Int):Tm:= .mk 2 nm s true []
theorem ZD (nm:Bs) (s:Int):(Yq nm s).cells= [.int .i64 2,.str nm,.int .i64 s,.nils]:=by
 show [PV.int .i64 2,.str nm,.int .i64 s,slV true 4 (Za [])]=_
 rw [show slV true 4 (Za [])= .nils from Zq 4]
def ZeN (a b:Tm):Tm:= .mk 3 [112,97,105,114] 0 true [a,b]
def XQ:List Tm→Tm
 | []=> .zero
 | a :: r => match r with
   | []=>a
   | _::_=>ZeN a (XQ r)
theorem ZiG (h:l[i]? = some a) (hi:i+1<l.length):XQ (l.drop i)=ZeN a (XQ (l.drop (i+1))):=by
 rw [ZM h]
 cases hr:l.drop (i+1) with
 |nil=>have:=congrArg List.length hr;simp at this;omega
 |cons b r=>simp only [XQ]
def endT:Tm:=Yq [101,110,100] 5
def YT (s:Bs):Tm:=XQ ((ZE s).map (fun x=>Yq x 4)++ [endT])
def XU (l:List Bs):Tm:=XQ (l.map YT++ [endT])
def Qq (n:Int):Tm:=Yq (110::Lib.itoa n) 4
def Zde (b:Bool):Bs:=if b=true then [121,101,115] else [110,111]
def Cred.bodyL (x:Cred):List Tm:=[Yq [99,101,114,116] 5,YT x.sub,x.key,Yq (Zde x.iss) 4,XU x.per,XU x.exc,Qq x.ser,Qq x.fr,Qq x.till]
def Cred.body (x:Cred):Tm:=XQ x.bodyL
def Cred.term (x:Cred) (key:Tm):Tm:= .mk 3 [115,105,103,110] 0 true [x.body,key]
def Cred.issue (x:Cred) (key:Tm):Tm×Int:=if x.valid≠0 then (.zero,x.valid) else if key.key≠0 then (.zero,key.key) else if (x.term key).valid≠0 then (.zero,(x.term key).valid) else (x.term key,0)
theorem W0 {a b:Int}:thn a b=0↔a=0∧b=0:=by
 unfold thn
 by_cases h:a=0
 · simp [h]
 · simp [h]
theorem Zbs {a b:Int}:WT a b=0↔a=b:=⟨WM,fun h=>by subst h;simp [WT]⟩
theorem Zdj {a b:List UInt8}:Xw a b=0↔a=b:=by
 constructor
 · intro h
   simp only [Xw] at h
   split at h
   · omega
   · split at h
     · assumption
     · omega
 · rintro rfl
   simp [Xw,XY]
mutual
theorem Uv:∀ a b:Tm,a.cmp b=0→a.cl=b.cl
 | .mk k nm s n l, .mk k' nm' s' n' l', h => by
   simp only [Tm.cmp,W0,Zbs,Zdj] at h
   obtain ⟨_,h2,h3,h4,h5,h6⟩:=h
   subst h2 h3 h4
   simp only [Tm.cl]
   rw [Zbt l l' (by omega) h6]
theorem Zbt:∀ l l':List Tm,l.length=l'.length→Ut l l'=0→clL l=clL l'
 | [],[],_,_=>rfl
 | [],_::_,h,_=>by simp at h
 |_::_,[],h,_=>by simp at h
 | a :: r, b :: r', h, h' => by
   simp only [Ut,W0] at h'
   simp only [clL]
   rw [Uv a b h'.1,Zbt r r' (by simpa using h) h'.2]
end
mutual
theorem YK:∀ t:Tm,t.cl.size=t.size
 | .mk _ _ _ _ l=>by simp only [Tm.cl,Tm.size,ZcI l]
theorem ZcI:∀ l:List Tm,Zz (clL l)=Zz l
 | []=>rfl
 |t::r=>by simp only [clL,Zz,YK t,ZcI r]
end
mutual
theorem ZdL:∀ a b:Tm,a.cl=b.cl→a.cmp b=0
 | .mk k nm s n l, .mk k' nm' s' n' l', h => by
   simp only [Tm.cl,Tm.mk.injEq,true_and] at h
   obtain ⟨rfl,rfl,rfl,h5⟩:=h
   have h6:l.length=l'.length:=by have:=congrArg List.length h5;simpa [Vj] using this
   have h7:Zz l=Zz l':=by have:=congrArg Zz h5;simpa [ZcI] using this
   simp only [Tm.cmp,W0,Zbs,Zdj,h6,h7,true_and]
   exact Zbn l l' h5
theorem Zbn:∀ l l':List Tm,clL l=clL l'→Ut l l'=0
 | [],_,_=>rfl
 |_::_,[],h=>by simp [clL] at h
 | a :: r, b :: r', h => by
   simp only [clL,List.cons.injEq] at h
   simp only [Ut,W0]
   exact ⟨ZdL a b h.1,Zbn r r' h.2⟩
end
theorem Z0 {b:Tm}:a.cmp b=0↔a.cl=b.cl:=⟨Uv a b,ZdL a b⟩
theorem Zki {b:Tm}:a.cmp b=0↔b.cmp a=0:=by rw [Z0,Z0];exact eq_comm
mutual
theorem Zbh:∀ t:Tm,t.cl.cl=t.cl
 | .mk _ _ _ _ l=>by simp only [Tm.cl,ZlU l]
theorem ZlU:∀ l:List Tm,clL (clL l)=clL l
 | []=>rfl
 |t::r=>by simp only [clL,Zbh t,ZlU r]
end
def Tm.nm:Tm→Bs
 | .mk _ nm _ _ _=>nm
theorem Zjt (t:Tm):t.cl.nm=t.nm:=by cases t;rfl
def Ys:Tm→Option (Tm×Tm)
 | .mk k nm _ _ l => match l with
   | [x,y]=>if k=3∧nm= [112,97,105,114] then some (x,y) else none
   | _=>none
theorem XE {x:Tm} (h:Ys t=some (x,y)):∃ s b,t= .mk 3 [112,97,105,114] s b [x,y]:=by
 obtain ⟨k,nm,s,b,l⟩:=t
 simp only [Ys] at h
 split at h
 · split at h
   · rename_i hc
     obtain ⟨rfl,rfl⟩:=hc
     cases h
     exact ⟨s,b,rfl⟩
   · cases h
 · cases h
theorem Zas (t:Tm):Ys t.cl=(Ys t).map fun p=>(p.1.cl,p.2.cl):=by
 obtain ⟨k,nm,s,b,l⟩:=t
 simp only [Tm.cl,Ys]
 match l with
 | []=>rfl
 | [x]=>rfl
 | [x, y] =>
   simp only [clL]
   split<;>rfl
 |x::y::z::r=>rfl
def Vf:Nat→Tm→List Tm×Tm
 |0,t=>([],t)
 | n + 1, t => match Ys t with
   | some (x,y)=>(x::(Vf n y).1,(Vf n y).2)
   | none=>([],t)
def Tm.parts (t:Tm):List Tm×Tm:=Vf t.size t
theorem ZaX:∀ (n m:Nat) (t:Tm),t.size≤n→t.size≤m→Vf n t=Vf m t
 |0,_,t,h,_=>by have:=Y1 t;omega
 |_+1,0,t,_,h=>by have:=Y1 t;omega
 | n + 1, m + 1, t, h, h' => by
   simp only [Vf]
   cases hp:Ys t with
   | none=>rfl
   | some p =>
     obtain ⟨x,y⟩:=p
     obtain ⟨s,b,rfl⟩:=XE hp
     simp only [Tm.size,Zz] at h h'
     have:=Y1 x
     simp only [ZaX n m y (by omega) (by omega)]
theorem VX {x:Tm} (h:Ys t=some (x,y)):t.parts=(x::y.parts.1,y.parts.2):=by
 obtain ⟨s,b,rfl⟩:=XE h
 have e:(Tm.mk 3 [112,97,105,114] s b [x,y]).size=(x.size+y.size)+1:=by simp only [Tm.size,Zz];omega
 unfold Tm.parts
 rw [e]
 simp only [Vf,h]
 rw [ZaX (x.size+y.size) y.size y (by omega) (Nat.le_refl _)]
theorem WP (h:Ys t=none):t.parts=([],t):=by
 obtain ⟨n,hn⟩:∃ n,t.size=n+1:=⟨t.size-1,by have:=Y1 t;omega⟩
 unfold Tm.parts
 rw [hn]
 simp only [Vf,h]
theorem Zd2:∀ (n:Nat) (t:Tm),Vf n t.cl=((Vf n t).1.map Tm.cl,(Vf n t).2.cl)
 |0,t=>rfl
 | n + 1, t => by
   simp only [Vf,Zas]
   cases Ys t with
   | none=>rfl
   | some p=>simp only [Option.map_some,Zd2 n p.2,List.map_cons]
theorem Zfn (t:Tm):t.cl.parts=(t.parts.1.map Tm.cl,t.parts.2.cl):=by
 unfold Tm.parts
 rw [YK,Zd2]
theorem Zad {e:Tm} (he:Ys e=none):∀ l:List Tm,(XQ (l++ [e])).parts=(l,e)
 | []=>WP he
 | a :: r => by
   have:XQ (a::r++ [e])=ZeN a (XQ (r++ [e])):=by
    cases r<;>rfl
   rw [this,VX (x:=a) (y:=XQ (r++ [e])) rfl,Zad he r]
def ZO (t:Tm):Bs×Bool:=(YZ [46] (t.parts.1.map Tm.nm),decide (t.parts.2.cmp endT=0))
def ZL (t:Tm):List Bs×Bool:=(t.parts.1.map fun x=>(ZO x).1,decide (t.parts.2.cmp endT=0)&&t.parts.1.all fun x=>(ZO x).2)
def ZP (t:Tm):Bs×Bool:=if t.parts.2.cmp endT=0 then (YZ [46] (t.parts.1.map Tm.nm),true) else ([],false)
def ZQ (t:Tm):List Bs×Bool:=if t.parts.2.cmp endT=0 then (t.parts.1.map fun x=>(ZP x).1,t.parts.1.all fun x=>(ZP x).2) else ([],false)
theorem ZeU:∀ l:List Bs,YZ [46] l=Zey l
 | []=>rfl
 | [x]=>rfl
 | x :: y :: r => by
   have:=ZeU (y::r)
   simp only [YZ,Zey] at this ⊢
   rw [this]
   rfl
theorem Zfu (h:u.cl=v.cl):u.parts.1.map Tm.cl=v.parts.1.map Tm.cl∧u.parts.2.cl=v.parts.2.cl:=by
 have h1:=Zfn u
 rw [h,Zfn v] at h1
 simp only [Prod.mk.injEq] at h1
 exact ⟨h1.1.symm,h1.2.symm⟩
theorem ZoS {l':List Tm} (h:l.map Tm.cl=l'.map Tm.cl):l.map Tm.nm=l'.map Tm.nm:=by
 have:=congrArg (List.map Tm.nm) h
 simpa [Function.comp_def,Zjt] using this
theorem ZaV (h:u.cl=v.cl):ZO u=ZO v:=by
 obtain ⟨h1,h2⟩:=Zfu h
 have e:(u.parts.2.cmp endT=0)=(v.parts.2.cmp endT=0):=propext (by rw [Z0,Z0,h2])
 simp only [ZO,ZoS h1,e]
theorem ZaQ {α:Type} {f:Tm→α} (hf:∀ u v:Tm,u.cl=v.cl→f u=f v):∀ {l l':List Tm},l.map Tm.cl=l'.map Tm.cl→l.map f=l'.map f
 | [],[],_=>rfl
 | [],_::_,h=>by simp at h
 |_::_,[],h=>by simp at h
 | a :: r, b :: r', h => by
   simp only [List.map_cons,List.cons.injEq] at h ⊢
   exact ⟨hf a b h.1,ZaQ hf h.2⟩
theorem VJ (l:List Tm) (f:Tm→Bool):l.all f=(l.map f).all id:=by simp [Function.comp_def]
theorem Zbr (h:u.cl=v.cl):ZL u=ZL v:=by
 obtain ⟨h1,h2⟩:=Zfu h
 have a1:=ZaQ (f:=fun x=>(ZO x).1) (fun u v h=>by rw [ZaV h]) h1
 have a2:=ZaQ (f:=fun x=>(ZO x).2) (fun u v h=>by rw [ZaV h]) h1
 have e:(u.parts.2.cmp endT=0)=(v.parts.2.cmp endT=0):=propext (by rw [Z0,Z0,h2])
 simp only [ZL,e,a1]
 rw [VJ u.parts.1,VJ v.parts.1,a2]
theorem Zgo (s:Bs):ZO (YT s)=(s,true):=by
 have h:=Zad (e:=endT) rfl ((ZE s).map fun x=>Yq x 4)
 simp only [ZO,YT,h,List.map_map,Function.comp_def]
 rw [show ((ZE s).map fun x=>(Yq x 4).nm)=ZE s by simp [Yq,Tm.nm],ZeU,Zb0]
 simp [Z0]
theorem Zia (l:List Bs):ZL (XU l)=(l,true):=by
 have h:=Zad (e:=endT) rfl (l.map YT)
 simp only [ZL,XU,h,List.map_map,Function.comp_def,Zgo,List.all_map]
 simp [Z0]
theorem ZbB (h:(ZO t).2=true):ZP t=ZO t:=by
 simp only [ZO,decide_eq_true_eq] at h
 simp only [ZP,ZO,h,if_pos,decide_true]
theorem ZaJ (h:(ZL t).2=true):ZQ t=ZL t:=by
 simp only [ZL,Bool.and_eq_true,decide_eq_true_eq] at h
 obtain ⟨h1,h2⟩:=h
 have h3:∀ x,x∈t.parts.1→ZP x=ZO x:=fun x hx=>ZbB (List.all_eq_true.1 h2 x hx)
 simp only [ZQ,ZL,h1,if_pos,decide_true,Bool.true_and]
 congr 1
 · exact List.map_congr_left fun x hx=>by rw [h3 x hx]
 · rw [VJ t.parts.1 fun x => (ZP x).2, VJ t.parts.1 fun x => (ZO x).2]
   congr 1
   exact List.map_congr_left fun x hx=>by rw [h3 x hx]
def Ql (s:Bs):Bs:=match s with
 |c::r=>if c=110 then r else c::r
 | []=>[]
def VG (s:Bs):Int:=match Lib.atoiAll (Ql s) with
 | .ok v=>v
 |_=> -1
def Uh (s:Bs):Int:=((s.take 6).drop 1).foldl (fun n c=>10*n+(c.toNat:Int)-48) 0
theorem XX {a:Nat} (h:a<10):(UInt8.ofNat (48+a)).toNat=48+a:=by
 simp only [UInt8.toNat_ofNat']
 omega
theorem Znr {u:Nat} (h:u<10):Lib.decDigits u= [UInt8.ofNat (48+u)]:=by rw [Lib.decDigits,dif_pos h]
theorem ZmY {u:Nat} (h:¬ u<10):Lib.decDigits u=Lib.decDigits (u / 10)++ [UInt8.ofNat (48+u % 10)]:=by rw [Lib.decDigits,dif_neg h]
theorem Zda {u : Nat} (h : u ≤ 9999) : (∃ a, a < 10 ∧ u = a ∧ Lib.decDigits u = [UInt8.ofNat (48 + a)]) ∨
  (∃ a b,a<10∧b<10∧u=10*a+b∧Lib.decDigits u= [UInt8.ofNat (48+a),UInt8.ofNat (48+b)])∨
  (∃ a b c,a<10∧b<10∧c<10∧u=100*a+10*b+c∧Lib.decDigits u= [UInt8.ofNat (48+a),UInt8.ofNat (48+b),UInt8.ofNat (48+c)])∨
  (∃ a b c d,a<10∧b<10∧c<10∧d<10∧u=1000*a+100*b+10*c+d∧Lib.decDigits u= [UInt8.ofNat (48+a),UInt8.ofNat (48+b),UInt8.ofNat (48+c),UInt8.ofNat (48+d)]):=by
 by_cases h1:u<10
 · exact .inl ⟨u,h1,rfl,Znr h1⟩
 · by_cases h2 : u < 100
   · exact .inr (.inl ⟨u / 10,u % 10,by omega,by omega,by omega,by rw [ZmY h1,Znr (by omega)];rfl⟩)
   · by_cases h3 : u < 1000
     · exact .inr (.inr (.inl ⟨u / 10 / 10,u / 10 % 10,u % 10,by omega,by omega,by omega,by omega,by rw [ZmY h1,ZmY (by omega),Znr (by omega)];rfl⟩))
     · exact .inr (.inr (.inr ⟨u / 10 / 10 / 10,u / 10 / 10 % 10,u / 10 % 10,u % 10,by omega,by omega,by omega,by omega,by omega,by rw [ZmY h1,ZmY (by omega),ZmY (by omega),Znr (by omega)];rfl⟩))
theorem Wi {acc a:Nat} (ha:a<10) (hacc:acc≤100000):Lib.parseUint10 acc (UInt8.ofNat (48+a)::r)=Lib.parseUint10 (acc*10+a) r:=by
 simp only [Lib.parseUint10,XX ha]
 rw [if_pos ⟨by omega,by omega⟩,if_neg (by omega),if_neg (by omega),show 48+a-48=a by omega]
theorem QP {a u:Nat} (ha:a<10) (h:Lib.parseUint10 a r= .ok u) (hu:u≤99999):Lib.atoiAll (UInt8.ofNat (48+a)::r)= .ok (u:Int):=by
 have h1:Lib.parseMag (UInt8.ofNat (48+a)::r)= .ok u:=by
  unfold Lib.parseMag
  rw [if_neg (by simp),Wi ha (by omega)]
  simpa using h
 simp only [Lib.atoiAll,XX ha]
 rw [if_neg (by omega),h1]
 simp only []
 rw [if_neg (by omega),if_neg (by omega),if_neg (by omega)]
theorem Zcm (h0:0≤n) (h1:n≤9999):VG (110::Lib.itoa n)=n∧Uh (110::Lib.itoa n)=n:=by
 obtain ⟨u,rfl⟩:∃ u:Nat,n=(u:Int):=⟨n.toNat,by omega⟩
 have e:Lib.itoa (u:Int)=Lib.decDigits u:=by
  unfold Lib.itoa
  rw [if_neg (by omega)]
  rfl
 have ht:Ql (110::Lib.decDigits u)=Lib.decDigits u:=by simp [Ql]
 rw [e]
 unfold VG Uh
 rw [ht]
 rcases Zda (u:=u) (by omega) with ⟨a,ha,hu,hd⟩|⟨a,b,ha,hb,hu,hd⟩|⟨a,b,c,ha,hb,hc,hu,hd⟩|⟨a,b,c,d,ha,hb,hc,hdd,hu,hd⟩
 all_goals
  rw [hd]
  constructor
 · rw [QP (u:=u) ha (by rw [hu];rfl) (by omega)]
 · simp only [List.take_succ_cons, List.take_nil, List.drop_succ_cons, List.drop_zero, List.foldl_cons, List.foldl_nil, XX ha]
   omega
 · rw [QP (u:=u) ha (by rw [Wi hb (by omega),hu,show a*10+b=10*a+b by omega];rfl) (by omega)]
 · simp only [List.take_succ_cons, List.take_nil, List.drop_succ_cons, List.drop_zero, List.foldl_cons, List.foldl_nil, XX ha, XX hb]
   omega
 · rw [QP (u:=u) ha (by rw [Wi hb (by omega),Wi hc (by omega),hu,show (a*10+b)*10+c=100*a+10*b+c by omega];rfl) (by omega)]
 · simp only [List.take_succ_cons, List.take_nil, List.drop_succ_cons, List.drop_zero, List.foldl_cons, List.foldl_nil, XX ha, XX hb, XX hc]
   omega
 · rw [QP (u:=u) ha (by rw [Wi hb (by omega),Wi hc (by omega),Wi hdd (by omega),hu,show ((a*10+b)*10+c)*10+d=1000*a+100*b+10*c+d by omega];rfl) (by omega)]
 · simp only [List.take_succ_cons, List.take_nil, List.drop_succ_cons, List.drop_zero, List.foldl_cons, List.foldl_nil, XX ha, XX hb, XX hc, XX hdd]
   omega
def Cred.zero:Cred:=⟨[],.zero,false,true,[],true,[],0,0,0⟩
def Yj:Nat→Tm→Option (List Tm×Tm)
 |0,t=>some ([],t)
 | n + 1, t => match Ys t with
   | some (x, y) => match Yj n y with
     | some (l,r)=>some (x::l,r)
     | none=>none
   | none=>none
def YE (rn:Tm→Bs×Bool) (rl:Tm→List Bs×Bool) (num:Bs→Int) (l:List Tm) (r:Tm):Cred×Bool:=match l with
 | [_,a,k,f,p,e,s,b]=>(⟨(rn a).1,k,f.nm== [121,101,115],true,(rl p).1,true,(rl e).1,num s.nm,num b.nm,num r.nm⟩,(rn a).2&&((rl p).2&&(rl e).2))
 |_=>(.zero,false)
def Zb7 (rn:Tm→Bs×Bool) (rl:Tm→List Bs×Bool) (num:Bs→Int) (t:Tm):Cred×Int:=
 if t.valid≠0∨t.isB [115,105,103,110] 2=false then (.zero,2) else match t with
  | .mk _ _ _ _ l => match l with
    | [u, key] => match Yj 8 u with
      | none=>(.zero,2)
      | some (l, r) => if (YE rn rl num l r).2 = false then (.zero, 2) else
        if ((YE rn rl num l r).1.issue key).2≠0∨((YE rn rl num l r).1.issue key).1.cmp t≠0 then (.zero,2) else ((YE rn rl num l r).1,0)
    | _=>(.zero,2)
def Zf:=Zb7 ZO ZL VG
def Zdw:=Zb7 ZP ZQ Uh
theorem Za1:∀ (n:Nat) (t:Tm),Yj n t.cl=(Yj n t).map fun p=>(p.1.map Tm.cl,p.2.cl)
 |0,t=>rfl
 | n + 1, t => by
   simp only [Yj,Zas]
   cases Ys t with
   | none=>rfl
   | some p =>
     simp only [Option.map_some,Za1 n p.2]
     cases Yj n p.2 with
     | none=>rfl
     | some q=>rfl
theorem Zbz (h:x.valid=0):(0≤x.ser∧x.ser≤9999)∧(0≤x.fr∧x.fr≤9999)∧(0≤x.till∧x.till≤9999):=by
 unfold Cred.valid at h
 split at h; · omega
 split at h; · contradiction
 split at h; · omega
 split at h; · omega
 split at h; · omega
 split at h; · omega
 split at h; · omega
 rename_i h7
 simp only [List.any_cons,List.any_nil,QC,Bool.or_false,Bool.or_eq_true,decide_eq_true_eq] at h7
 omega
theorem Zfb (b:Bool):(Zde b== [121,101,115])=b:=by cases b<;>rfl
theorem UA (hv : x.valid = 0) (hu : u.cl = x.body.cl) : ∃ l r k, Yj 8 u = some (l, r) ∧ k.cl = x.key.cl ∧ YE ZO ZL VG l r = (⟨x.sub, k, x.iss, true, x.per, true, x.exc, x.ser, x.fr, x.till⟩, true) ∧
  YE ZP ZQ Uh l r=(⟨x.sub,k,x.iss,true,x.per,true,x.exc,x.ser,x.fr,x.till⟩,true)∧(u=x.body→k=x.key):=by
 have h1:=Za1 8 u
 have h2:Yj 8 x.body=some ([Yq [99,101,114,116] 5,YT x.sub,x.key,Yq (Zde x.iss) 4,XU x.per,XU x.exc,Qq x.ser,Qq x.fr],Qq x.till):=rfl
 rw [hu,Za1 8 x.body,h2] at h1
 simp only [Option.map_some,List.map_cons,List.map_nil] at h1
 cases hf:Yj 8 u with
 |none=>rw [hf] at h1;cases h1
 | some q =>
   obtain ⟨l,r⟩:=q
   rw [hf] at h1
   simp only [Option.map_some,Option.some.injEq,Prod.mk.injEq] at h1
   obtain ⟨h3,h4⟩:=h1
   rcases l with _|⟨a0,_|⟨a1,_|⟨a2,_|⟨a3,_|⟨a4,_|⟨a5,_|⟨a6,_|⟨a7,_|⟨a8,l⟩⟩⟩⟩⟩⟩⟩⟩⟩
   all_goals first
    | (simp at h3;done)
    | skip
   · simp only [List.map_cons, List.map_nil, List.cons.injEq, and_true] at h3
     obtain ⟨-,e1,e2,e3,e4,e5,e6,e7⟩:=h3
     have f1:=ZaV e1
     have f4:=Zbr e4
     have f5:=Zbr e5
     rw [Zgo] at f1
     rw [Zia] at f4 f5
     have g1:=ZbB (t:=a1) (by rw [← f1])
     have g4:=ZaJ (t:=a4) (by rw [← f4])
     have g5:=ZaJ (t:=a5) (by rw [← f5])
     rw [← f1] at g1
     rw [← f4] at g4
     rw [← f5] at g5
     have n3:a3.nm=Zde x.iss:=by rw [← Zjt a3, ← e3];rfl
     have n6:a6.nm=110::Lib.itoa x.ser:=by rw [← Zjt a6, ← e6];rfl
     have n7:a7.nm=110::Lib.itoa x.fr:=by rw [← Zjt a7, ← e7];rfl
     have n8:r.nm=110::Lib.itoa x.till:=by rw [← Zjt r, ← h4];rfl
     obtain ⟨⟨v1,v2⟩,⟨v3,v4⟩,v5,v6⟩:=Zbz hv
     have b6:=Zcm v1 v2
     have b7:=Zcm v3 v4
     have b8:=Zcm v5 v6
     refine ⟨_,_,a2,rfl,e2.symm,?_,?_,fun e=>?_⟩
     · simp only [YE, ← f1, ← f4, ← f5,n3,n6,n7,n8,Zfb,b6,b7,b8,Bool.and_self]
     · simp only [YE,g1,g4,g5,n3,n6,n7,n8,Zfb,b6,b7,b8,Bool.and_self]
     · subst e
       rw [h2] at hf
       simp only [Option.some.injEq,Prod.mk.injEq,List.cons.injEq] at hf
       exact hf.1.2.2.1.symm
theorem Q6 {key:Tm} (h:(x.issue key).2=0):x.valid=0∧key.key=0∧(x.term key).valid=0∧(x.issue key).1=x.term key:=by
 unfold Cred.issue at h ⊢
 split at h; · contradiction
 split at h; · contradiction
 split at h; · contradiction
 rename_i h1 h2 h3
 rw [if_neg h1,if_neg h2,if_neg h3]
 exact ⟨by simpa using h1,by simpa using h2,by simpa using h3,rfl⟩
theorem Zec {key key':Tm} {nm:Bs} {s:Int} (h:(x.term key).cmp (.mk k nm s b [u,key'])=0):u.cl=x.body.cl:=by
 have:=Uv _ _ h
 simp only [Cred.term,Tm.cl,Tm.mk.injEq,clL,List.cons.injEq] at this
 exact this.2.2.2.2.1.symm
theorem Zix (t:Tm):Zf t=Zdw t:=by
 unfold Zf Zdw Zb7
 split
 · rfl
 · obtain ⟨k, nm, s, b, kids⟩ := t
   simp only []
   match kids with
   | []=>rfl
   | [_]=>rfl
   | _::_::_::_=>rfl
   | [u, key] =>
     simp only []
     cases hf:Yj 8 u with
     | none=>rfl
     | some q =>
       obtain ⟨l,r⟩:=q
       simp only []
       have key1:∀ c:Cred×Bool,c=YE ZO ZL VG l r∨c=YE ZP ZQ Uh l r→(c.1.issue key).2=0→(c.1.issue key).1.cmp (.mk k nm s b [u,key])=0→YE ZO ZL VG l r=YE ZP ZQ Uh l r:=fun c _ h1 h2=>by
        obtain ⟨i1,i2,i3,i4⟩:=Q6 h1
        rw [i4] at h2
        obtain ⟨l',r',k',e1,_,e2,e3,_⟩:=UA i1 (Zec h2)
        rw [hf] at e1
        cases e1
        rw [e2,e3]
       by_cases hP:((YE ZO ZL VG l r).1.issue key).2=0∧((YE ZO ZL VG l r).1.issue key).1.cmp (.mk k nm s b [u,key])=0
       · rw [key1 _ (.inl rfl) hP.1 hP.2]
       · by_cases hR : ((YE ZP ZQ Uh l r).1.issue key).2 = 0 ∧ ((YE ZP ZQ Uh l r).1.issue key).1.cmp (.mk k nm s b [u, key]) = 0
         · rw [key1 _ (.inr rfl) hR.1 hR.2]
         · have hP' : ((YE ZO ZL VG l r).1.issue key).2 ≠ 0 ∨ ((YE ZO ZL VG l r).1.issue key).1.cmp (.mk k nm s b [u, key]) ≠ 0 := Decidable.not_and_iff_or_not.1 hP
           have hR':((YE ZP ZQ Uh l r).1.issue key).2≠0∨((YE ZP ZQ Uh l r).1.issue key).1.cmp (.mk k nm s b [u,key])≠0:=Decidable.not_and_iff_or_not.1 hR
           rw [if_pos hP',if_pos hR']
           split<;>split<;>rfl
theorem ZbO {key:Tm} (h:(x.issue key).2=0):Zf (x.issue key).1=({x with pn:=true,en:=true},0):=by
 obtain ⟨h1,h2,h3,h4⟩:=Q6 h
 rw [h4]
 obtain ⟨l,r,k,e1,_,e2,_,e4⟩:=UA h1 rfl
 have e4:=e4 rfl
 subst e4
 unfold Zf Zb7
 rw [if_neg (by rw [h3];simp [Tm.isB,Cred.term])]
 simp only [Cred.term,e1,e2]
 have h5:Cred.issue ⟨x.sub,x.key,x.iss,true,x.per,true,x.exc,x.ser,x.fr,x.till⟩ key=x.issue key:=rfl
 rw [if_neg (by simp),if_neg (by rw [h5,h,h4];simp [Z0,Cred.term])]
open Go.RowKit
section
variable {E:Env} {P:Program}
theorem Qx (hf : FnOk P f fn c) (hmono : E.mono = false) {r : PV}
  (h:∀ (g:Gh) (w:World) (vals:Array Value),(∀ b o v,g.S b o=some v→w.cell? ⟨b,o,none⟩=some v)→GOk E g→VL g args vals.toList→∃ v,V0 g.S r v∧Calls P f vals w fun e w'=>e= .returned v∧Below w.heap.size w w') :
  ∀ H,CallOk E P f args H r H:=by
 intro H g w vals hi hg hv
 obtain ⟨v,hv0,hc⟩:=h g w vals hi.st hg hv
 rw [ZY hf]
 refine Calls.mono hc fun e w' ⟨h1,hb⟩=>?_
 obtain ⟨j1,j2⟩:=ZaC hi (fun k hk=>hb.block k hk) hb.size ⟨hb.os,hb.output,hb.tape,fun hm=>absurd (hg.2.1 hm) (by rw [hmono];simp)⟩
 exact ⟨v,h1,g,.pure _ _ hv0,j1,j2⟩
theorem ZnB {k:Nat} (hg:GOk E g) (hG:E.G k=some cs) {w:World} (hst:∀ b o v,g.S b o=some v→w.cell? ⟨b,o,none⟩=some v) {kk:IntKind} {j:Nat} (h:cs[j]? = some (.int kk n)):w.cell? ⟨k,j,none⟩=some (.int kk n):=by
 obtain ⟨b,o,vals,h1,h2,h3⟩:=(V.pure (g:=g) _ _ (hg.1 k cs hG)).fptr_inv
 simp only [Value.pointer.injEq,Option.some.injEq,Addr.mk.injEq,and_true] at h3
 obtain ⟨rfl,h3⟩:=h3
 obtain rfl:o=0:=by omega
 obtain ⟨hj,hx⟩:=List.getElem?_eq_some_iff.1 h
 have e:=h2 j hj
 rw [hx] at e
 have h4:=h1 j hj
 cases hv:vals j with
 | int k' n' =>
   rw [hv] at e h4
   cases e
   simpa using hst _ _ _ h4
 |_=>rw [hv] at e;cases e
end
open Go.Sort in
theorem Zg8 (w:World) (k:Nat) (os:Array Obj):Below w.heap.size w (grow (w.drewN k) os):=by
 refine ⟨rfl,rfl,rfl,by simp [grow,World.drewN],fun j hj=>?_⟩
 simp only [grow,World.drewN]
 rw [Array.getElem?_append_left hj]
theorem Vz:∀ a b:List Tm,Zz (a++b)=Zz a+Zz b
 | [],b=>by simp [Zz]
 |t::a,b=>by simp only [List.cons_append,Zz,Vz a b];omega
theorem QX:∀ l:List Tm,l≠ []→(XQ l).size+1=Zz l+l.length
 | [],h=>absurd rfl h
 | [a],_=>by simp [XQ,Zz]
 | a :: b :: r, _ => by
   have:=QX (b::r) (by simp)
   simp only [XQ,ZeN,Tm.size,Zz,List.length_cons] at this ⊢
   omega
theorem Zgu:∀ {l:List Tm},l≠ []→(∀ t,t∈l→t.Ok)→(XQ l).Ok
 | [],h,_=>absurd rfl h
 | [a],_,h=>h a (by simp)
 | a :: b :: r, _, h => by
   have h1:=Zgu (l:=b::r) (by simp) (fun t ht=>h t (by simp [List.mem_cons.1 ht]))
   refine .mk (by decide) (by decide) (by simp [maxLen]) (by simp [maxLen]) fun t ht=>?_
   rcases List.mem_cons.1 ht with rfl|ht
   · exact h _ (by simp)
   · rw [List.mem_singleton.1 ht];exact h1
theorem U8 {nm:Bs} {s:Int} (h:nm.length≤1000000) (h0:0≤s) (h1:s≤5):(Yq nm s).Ok:=
 .mk (by decide) (by
  rcases (show s=0∨s=1∨s=2∨s=3∨s=4∨s=5 by omega) with rfl|rfl|rfl|rfl|rfl|rfl<;>decide) (by simp only [maxLen];omega) (by simp [maxLen]) fun t ht=>absurd ht (by simp)
theorem Zfo:endT.Ok:=U8 (by decide) (by decide) (by decide)
theorem ZbC (s:Int):∀ l:List Bs,Zz (l.map fun x=>Yq x s)=l.length
 | []=>rfl
 | x :: r => by
   have:=ZbC s r
   have e:(Yq x s).size=1:=rfl
   simp only [List.map_cons,Zz,e,List.length_cons]
   omega
theorem UK (h:ZK s=true):(ZE s).length≤4∧∀ x,x∈ZE s→x.length≤8:=by
 simp only [ZK,Bool.and_eq_true,decide_eq_true_eq] at h
 refine ⟨h.1,fun x hx=>?_⟩
 have:=List.all_eq_true.1 h.2 x hx
 cases x with
 |nil=>simp
 | cons c r =>
   simp only [Yz,Bool.and_eq_true,decide_eq_true_eq] at this
   simp only [List.length_cons]
   omega
theorem Zdh (h:ZK s=true):(YT s).size≤9:=by
 have h1:=QX ((ZE s).map (fun x=>Yq x 4)++ [endT]) (by simp)
 have h2:=(UK h).1
 have h3:(YT s).size=(XQ ((ZE s).map (fun x=>Yq x 4)++ [endT])).size:=rfl
 have e:endT.size=1:=rfl
 simp only [Vz,ZbC,List.length_append,List.length_map,List.length_cons,List.length_nil,Zz,e] at h1
 omega
theorem Zhw (h:ZK s=true):(YT s).Ok:=by
 refine Zgu (by simp) fun t ht=>?_
 rcases List.mem_append.1 ht with ht|ht
 · obtain ⟨x, hx, rfl⟩ := List.mem_map.1 ht
   exact U8 (by have:=(UK h).2 x hx;omega) (by decide) (by decide)
 · rw [List.mem_singleton.1 ht];exact Zfo
theorem Zdn:∀ {l:List Bs},(∀ s,s∈l→ZK s=true)→Zz (l.map YT)≤9*l.length
 | [],_=>by simp [Zz]
 | s :: r, h => by
   have h1:=Zdh (h s (by simp))
   have h2:=Zdn (l:=r) (fun x hx=>h x (by simp [hx]))
   simp only [List.map_cons,Zz,List.length_cons]
   omega
theorem ZbG {l:List Bs} (h:∀ s,s∈l→ZK s=true) (hl:l.length≤4):(XU l).size≤41:=by
 have h1:=QX (l.map YT++ [endT]) (by simp)
 have h2:=Zdn h
 have h3:(XU l).size=(XQ (l.map YT++ [endT])).size:=rfl
 have e:endT.size=1:=rfl
 simp only [Vz,List.length_append,List.length_map,List.length_cons,List.length_nil,Zz,e] at h1
 omega
theorem ZfH {l:List Bs} (h:∀ s,s∈l→ZK s=true):(XU l).Ok:=by
 refine Zgu (by simp) fun t ht=>?_
 rcases List.mem_append.1 ht with ht|ht
 · obtain ⟨x, hx, rfl⟩ := List.mem_map.1 ht
   exact Zhw (h x hx)
 · rw [List.mem_singleton.1 ht];exact Zfo
theorem UM (h0:0≤n) (h1:n≤9999):(Lib.itoa n).length≤4:=by
 obtain ⟨u,rfl⟩:∃ u:Nat,n=(u:Int):=⟨n.toNat,by omega⟩
 have e:Lib.itoa (u:Int)=Lib.decDigits u:=by
  unfold Lib.itoa
  rw [if_neg (by omega)]
  rfl
 rw [e]
 rcases Zda (u:=u) (by omega) with ⟨a,ha,hu,hd⟩|⟨a,b,ha,hb,hu,hd⟩|⟨a,b,c,ha,hb,hc,hu,hd⟩|⟨a,b,c,d,ha,hb,hc,hdd,hu,hd⟩<;>rw [hd]<;>simp
theorem ZiC (h0:0≤n) (h1:n≤9999):(Qq n).Ok:=U8 (by have:=UM h0 h1;simp;omega) (by decide) (by decide)
structure CredOk (x:Cred):Prop where
 sub:ZK x.sub=true
 per:∀ s,s∈x.per→ZK s=true
 exc:∀ s,s∈x.exc→ZK s=true
 pl:x.per.length≤4
 el:x.exc.length≤4
 n1:0≤x.ser∧x.ser≤9999
 n2:0≤x.fr∧x.fr≤9999
 n3:0≤x.till∧x.till≤9999
theorem Zc3 {l:List Bs} (h:¬ Xi l=true):∀ s,s∈l→ZK s=true:=fun s hs=>by
 cases hd:ZK s with
 |true=>rfl
 |false=>exact absurd (List.any_eq_true.2 ⟨s,hs,by simp [hd]⟩) h
theorem Zb9 (h:x.valid=0):CredOk x:=by
 obtain ⟨a,b,c⟩:=Zbz h
 unfold Cred.valid at h
 split at h; · omega
 split at h; · contradiction
 split at h; · omega
 split at h; · omega
 split at h; · omega
 rename_i h1 h2 h3 h4 h5
 exact ⟨by simpa using h1,Zc3 fun e=>h5 (.inl e),Zc3 fun e=>h5 (.inr e),by omega,by omega,a,b,c⟩
theorem ZiI (h:CredOk x):x.body.size≤x.key.size+104:=by
 have h1:=QX x.bodyL (by simp [Cred.bodyL])
 have h2:=Zdh h.sub
 have h3:=ZbG h.per h.pl
 have h4:=ZbG h.exc h.el
 have h5:x.body.size=(XQ x.bodyL).size:=rfl
 simp only [Cred.bodyL,Zz,List.length_cons,List.length_nil] at h1
 have a1:∀ nm s,(Yq nm s).size=1:=fun _ _=>rfl
 have a2:∀ n,(Qq n).size=1:=fun _=>rfl
 simp only [a1,a2] at h1
 simp only [Cred.bodyL] at h5
 omega
theorem Zm2 (h:CredOk x) (hk:x.key.Ok):x.body.Ok:=by
 refine Zgu (by simp [Cred.bodyL]) fun t ht=>?_
 simp only [Cred.bodyL,List.mem_cons,List.not_mem_nil,or_false] at ht
 rcases ht with rfl|rfl|rfl|rfl|rfl|rfl|rfl|rfl|rfl
 · exact U8 (by decide) (by decide) (by decide)
 · exact Zhw h.sub
 · exact hk
 · exact U8 (by cases x.iss<;>decide) (by decide) (by decide)
 · exact ZfH h.per
 · exact ZfH h.exc
 · exact ZiC h.n1.1 h.n1.2
 · exact ZiC h.n2.1 h.n2.2
 · exact ZiC h.n3.1 h.n3.2
theorem ZaL {key:Tm} (h:CredOk x):(x.term key).size≤x.key.size+key.size+105:=by
 have:=ZiI h
 simp only [Cred.term,Tm.size,Zz]
 omega
theorem ZeX {key:Tm} (h:CredOk x) (hk:x.key.Ok) (hk2:key.Ok):(x.term key).Ok:=by
 refine .mk (by decide) (by decide) (by simp [maxLen]) (by simp [maxLen]) fun t ht=>?_
 rcases List.mem_cons.1 ht with rfl|ht
 · exact Zm2 h hk
 · rw [List.mem_singleton.1 ht];exact hk2
theorem ZcA (t:Tm):t.isB [112,97,105,114] 2=(Ys t).isSome:=by
 obtain ⟨k,nm,s,b,l⟩:=t
 simp only [Tm.isB,Ys]
 match l with
 | []=>simp
 | [x]=>simp
 | [x, y] =>
   by_cases h1:k=3
   · by_cases h2 : nm = [112, 97, 105, 114]
     · simp [h1,h2]
     · simp [h1,h2]
   · simp [h1]
 |x::y::z::r=>simp
def Tm.within (x t:Tm):Prop:=x.size≤t.size∧∀ y,y∈x.all→y∈t.all
theorem Ug (t:Tm):t.within t:=⟨Nat.le_refl _,fun _ h=>h⟩
theorem Yn {b c:Tm} (h:a.within b) (h':b.within c):a.within c:=⟨Nat.le_trans h.1 h'.1,fun y hy=>h'.2 y (h.2 y hy)⟩
theorem W8 (t:Tm):t∈t.all:=by obtain ⟨k,nm,s,b,l⟩:=t;simp [Tm.all]
theorem XH {nm:Bs} {s:Int} {x:Tm} (h:x∈l):x.within (.mk k nm s b l):=by
 refine ⟨by have:=Xu h;simp only [Tm.size];omega,fun y hy=>?_⟩
 simp only [Tm.all,List.mem_cons]
 refine .inr ?_
 induction l with
 |nil=>simp at h
 | cons a r ih =>
   simp only [Us,List.mem_append]
   rcases List.mem_cons.1 h with rfl|h
   · exact .inl hy
   · exact .inr (ih h)
theorem Tm.Ok.part {x:Tm} (ht:t.Ok) (h:x.within t):x.Ok:=(ZiX ht x (h.2 x (W8 x))).1
theorem Y3 {x:Tm} (h:Ys t=some (x,y)):x.within t∧y.within t∧x.size+y.size+1=t.size:=by
 obtain ⟨s,b,rfl⟩:=XE h
 refine ⟨XH (by simp),XH (by simp),?_⟩
 simp only [Tm.size,Zz]
 omega
theorem UP:∀ (n:Nat) (t:Tm),t.size≤n→(∀ x,x∈t.parts.1→x.within t)∧t.parts.2.within t∧Zz t.parts.1+t.parts.1.length+t.parts.2.size=t.size
 |0,t,h=>by have:=Y1 t;omega
 | n + 1, t, h => by
   cases hp:Ys t with
   | none =>
     rw [WP hp]
     exact ⟨fun x hx=>by simp at hx,Ug t,by simp [Zz]⟩
   | some p =>
     obtain ⟨x,y⟩:=p
     obtain ⟨w1,w2,w3⟩:=Y3 hp
     have:=Y1 x
     obtain ⟨i1,i2,i3⟩:=UP n y (by omega)
     rw [VX hp]
     refine ⟨fun z hz=>?_,Yn i2 w2,?_⟩
     · rcases List.mem_cons.1 hz with rfl | hz
       · exact w1
       · exact Yn (i1 z hz) w2
     · simp only [Zz, List.length_cons]
       omega
theorem Xp {x:Tm} (h:x∈t.parts.1):x.within t:=(UP t.size t (Nat.le_refl _)).1 x h
theorem Zbq (t:Tm):t.parts.2.within t:=(UP t.size t (Nat.le_refl _)).2.1
theorem Wk (t:Tm):t.parts.1.length+1≤t.size:=by
 have:=(UP t.size t (Nat.le_refl _)).2.2
 have:=Y1 t.parts.2
 omega
def Small (t:Tm):Prop:=t.size≤400∧∀ x,x∈t.all→x.nm.length≤24
theorem Small.part {x:Tm} (ht:Small t) (h:x.within t):Small x:=⟨Nat.le_trans h.1 ht.1,fun y hy=>ht.2 y (h.2 y hy)⟩
theorem Zjs {nm:Bs} (h:VH nm=true):nm.length≤24:=by
 cases nm with
 |nil=>simp
 | cons c r =>
   simp only [VH,Bool.and_eq_true,decide_eq_true_eq] at h
   exact h.1
mutual
theorem ZaT:∀ t:Tm,t.nodes=0→∀ x,x∈t.all→x.nm.length≤24
 | .mk k nm s b l, h, x, hx => by
   simp only [Tm.nodes] at h
   split at h
   · rename_i hc;exact absurd h hc
   · rename_i hc
     simp only [Tm.all,List.mem_cons] at hx
     rcases hx with rfl|hx
     · have hc : WZ k nm s l.length = 0 := by simpa using hc
       unfold WZ at hc
       split at hc; · omega
       split at hc; · omega
       rename_i h2
       have h2:VH nm=true:=by simpa using h2
       exact Zjs h2
     · exact Qy l h x hx
theorem Qy:∀ l:List Tm,XB l=0→∀ x,x∈Us l→x.nm.length≤24
 | [],_,x,hx=>by simp [Us] at hx
 | t :: r, h, x, hx => by
   simp only [XB] at h
   split at h
   · rename_i hc;exact absurd h hc
   · rename_i hc
     simp only [Us,List.mem_append] at hx
     rcases hx with hx|hx
     · exact ZaT t (by simpa using hc) x hx
     · exact Qy r h x hx
end
theorem Za0 (h:t.valid=0):Small t:=by
 unfold Tm.valid at h
 split at h
 · contradiction
 · rename_i hc
   split at h
   · omega
   · rename_i hd
     exact ⟨by omega,ZaT t (by simpa using hc)⟩
theorem ZaM (sep:Bs) (K:Nat):∀ l:List Bs,(∀ s,s∈l→s.length≤K)→(YZ sep l).length≤(K+sep.length)*l.length
 | [],_=>by simp [YZ]
 | [x], h => by
   have:=h x (by simp)
   simp only [YZ,List.length_cons,List.length_nil,Nat.zero_add,Nat.mul_one]
   omega
 | x :: y :: r, h => by
   have h1:=ZaM sep K (y::r) (fun s hs=>h s (by simp [List.mem_cons.1 hs]))
   have h2:=h x (by simp)
   simp only [YZ,List.length_append,List.length_cons] at h1 ⊢
   rw [Nat.mul_succ]
   omega
theorem WS (h:Small t):(ZO t).1.length≤10000:=by
 have h1:=ZaM [46] 24 (t.parts.1.map Tm.nm) (fun s hs=>by
  obtain ⟨x,hx,rfl⟩:=List.mem_map.1 hs
  exact h.2 x ((Xp hx).2 x (W8 x)))
 have h2:=Wk t
 have h3:=h.1
 simp only [List.length_map,List.length_cons,List.length_nil] at h1
 simp only [ZO]
 omega
theorem Zan (h:Small t):(ZP t).1.length≤10000:=by
 have:=WS h
 simp only [ZP,ZO] at this ⊢
 split
 · exact this
 · simp
theorem Zaz (h:Small t):(ZL t).1.length≤400∧∀ s,s∈(ZL t).1→s.length≤10000:=by
 have h2:=Wk t
 have h3:=h.1
 refine ⟨by simp only [ZL,List.length_map];omega,fun s hs=>?_⟩
 simp only [ZL] at hs
 obtain ⟨x,hx,rfl⟩:=List.mem_map.1 hs
 exact WS (h.part (Xp hx))
theorem QD (h:Small t):(ZQ t).1.length≤400∧∀ s,s∈(ZQ t).1→s.length≤10000:=by
 have h2:=Wk t
 have h3:=h.1
 simp only [ZQ]
 split
 · refine ⟨by simp only [List.length_map]; omega, fun s hs => ?_⟩
   obtain ⟨x,hx,rfl⟩:=List.mem_map.1 hs
   exact Zan (h.part (Xp hx))
 · exact ⟨by simp,fun s hs=>by simp at hs⟩
theorem ZjA:∀ l:List Bs,ZeM (Y8 l)=some l
 | []=>rfl
 | x :: r => by
   have:=ZjA r
   simp only [Y8,List.map_cons,ZeM] at this ⊢
   rw [this]
theorem ZcM (h:t.isB [115,105,103,110] 2=true):∃ s b u key,t= .mk 3 [115,105,103,110] s b [u,key]:=by
 obtain ⟨k,nm,s,b,l⟩:=t
 simp only [Tm.isB,Bool.and_eq_true,decide_eq_true_eq,beq_iff_eq] at h
 obtain ⟨rfl,rfl,hl⟩:=h
 match l,hl with
 | [u,key],_=>exact ⟨s,b,u,key,rfl⟩
theorem Yv {key:Tm} (hk:x.key.Ok) (hk2:key.Ok):(x.issue key).1.Ok∧(x.issue key).1.size≤x.key.size+key.size+105:=by
 have hz:Tm.zero.size≤x.key.size+key.size+105:=by
  have:Tm.zero.size=1:=rfl
  omega
 unfold Cred.issue
 split; · exact ⟨Tm.ok_zero,hz⟩
 rename_i h1
 split; · exact ⟨Tm.ok_zero,hz⟩
 split; · exact ⟨Tm.ok_zero,hz⟩
 have hok:=Zb9 (x:=x) (by simpa using h1)
 exact ⟨ZeX hok hk hk2,ZaL hok⟩
theorem Uq {n : Nat} : Yj (n + 1) u = match Ys u with
  | some (x, y) => match Yj n y with
    | some (l,r)=>some (x::l,r)
    | none=>none
  | none=>none:=rfl
def QJ (rn:Tm→Bs×Bool) (rl:Tm→List Bs×Bool) (num:Bs→Int) (t key:Tm) (q:Option (List Tm×Tm)):Cred×Int:=match q with
 |none=>(.zero,2)
 | some (l, r) => if (YE rn rl num l r).2 = false then (.zero, 2) else
   if ((YE rn rl num l r).1.issue key).2≠0∨((YE rn rl num l r).1.issue key).1.cmp t≠0 then (.zero,2) else ((YE rn rl num l r).1,0)
theorem ZeD (rn : Tm → Bs × Bool) (rl : Tm → List Bs × Bool) (num : Bs → Int) {s : Int} {key : Tm} (h : (Tm.mk 3 [115, 105, 103, 110] s b [u, key]).valid = 0) :
  Zb7 rn rl num (.mk 3 [115,105,103,110] s b [u,key])=QJ rn rl num (.mk 3 [115,105,103,110] s b [u,key]) key (Yj 8 u):=by
 unfold Zb7
 rw [if_neg (by rw [h];simp [Tm.isB])]
 rfl
theorem Zeg (rn:Tm→Bs×Bool) (rl:Tm→List Bs×Bool) (num:Bs→Int) (h:t.valid≠0∨t.isB [115,105,103,110] 2=false):Zb7 rn rl num t=(.zero,2):=by
 unfold Zb7
 rw [if_pos h]
theorem U3 {rn : Tm → Bs × Bool} {rl : Tm → List Bs × Bool} {num : Bs → Int} {key : Tm} {r : Tm} {X : Cred} {B : Bool} (h : YE rn rl num l r = (X, B)) :
  (B=false→QJ rn rl num t key (some (l,r))=(.zero,2))∧(B=true→(X.issue key).2≠0→QJ rn rl num t key (some (l,r))=(.zero,2))∧
  (B=true→(X.issue key).1.cmp t≠0→QJ rn rl num t key (some (l,r))=(.zero,2))∧(B=true→(X.issue key).2=0→(X.issue key).1.cmp t=0→QJ rn rl num t key (some (l,r))=(X,0)):=by
 simp only [QJ,h]
 refine ⟨fun hB=>by rw [if_pos hB],fun hB h1=>?_,fun hB h1=>?_,fun hB h1 h2=>?_⟩
 · rw [if_neg (by rw [hB];simp),if_pos (.inl h1)]
 · rw [if_neg (by rw [hB];simp),if_pos (.inr h1)]
 · rw [if_neg (by rw [hB];simp),if_neg (by rw [h1,h2];simp)]
theorem Zld (h:u.cmp endT=0):Ys u=none:=by
 have h1:=Zas u
 rw [Uv _ _ h] at h1
 have h2:Ys endT.cl=none:=rfl
 rw [h2] at h1
 cases e:Ys u with
 |none=>rfl
 |some p=>rw [e] at h1;cases h1
theorem ZbK (x:Bs):∀ {l:List Bs},l≠ []→YZ [46] (l++ [x])=(YZ [46] l++ [46])++x
 | [],h=>absurd rfl h
 | [a],_=>by simp [YZ]
 | a :: b :: r, _ => by
   have:=ZbK x (l:=b::r) (by simp)
   simp only [List.cons_append,YZ] at this ⊢
   rw [this]
   simp
theorem Zg7 {l:List Bs}:∀ {i:Nat},(YZ [46] (l.take i)).length≤(YZ [46] l).length:=by
 induction l with
 |nil=>intro i;simp
 | cons a r ih =>
   intro i
   cases i with
   | zero=>simp [YZ]
   | succ i =>
     simp only [List.take_succ_cons]
     cases r with
     | nil=>simp
     | cons b r =>
       cases i with
       | zero=>simp [YZ]
       | succ i =>
         have:=ih (i:=i+1)
         simp only [List.take_succ_cons,YZ,List.length_append] at this ⊢
         omega
def V2 (n:Int) (c:UInt8):Int:=10*n+(c.toNat:Int)-48
theorem ZeJ:∀ (l:Bs) (n:Int) (B:Int), -B≤n→n≤B→0≤B→ -(B+300)*11 ^ l.length≤l.foldl V2 n∧l.foldl V2 n≤(B+300)*11 ^ l.length:=by
 intro l
 induction l with
 |nil=>intro n B h1 h2 h3;simp;omega
 | cons c r ih =>
   intro n B h1 h2 h3
   have hc:=c.toNat_lt
   have hs:V2 n c=10*n+(c.toNat:Int)-48:=rfl
   have h5:=ih (V2 n c) (10*B+300) (by rw [hs];omega) (by rw [hs];omega) (by omega)
   simp only [List.foldl_cons,List.length_cons]
   have hp:(0:Int)≤11 ^ r.length:=Int.le_of_lt (Int.pow_pos (by decide))
   have e1:(B+300)*11 ^ (r.length+1)=(11*B+3300)*11 ^ r.length:=by rw [Int.pow_succ];rw [show (11:Int)*B+3300=(B+300)*11 by omega,Int.mul_assoc,Int.mul_comm 11]
   have e2:(10*B+300+300)*11 ^ r.length≤(11*B+3300)*11 ^ r.length:=Int.mul_le_mul_of_nonneg_right (by omega) hp
   have e3: -(B+300)*11 ^ (r.length+1)= -((B+300)*11 ^ (r.length+1)):=Int.neg_mul ..
   have e4: -(10*B+300+300)*11 ^ r.length= -((10*B+300+300)*11 ^ r.length):=Int.neg_mul ..
   rw [e4] at h5
   rw [e3,e1]
   omega
theorem Zmy (s:Bs):Uh s=((s.take 6).drop 1).foldl V2 0:=rfl
theorem ZhN (s:Bs) (i:Nat) (hi:i≤6): -1000000000≤((s.take i).drop 1).foldl V2 0∧((s.take i).drop 1).foldl V2 0≤1000000000:=by
 have h:=ZeJ ((s.take i).drop 1) 0 0 (by omega) (by omega) (by omega)
 have hl:((s.take i).drop 1).length≤5:=by rw [List.length_drop,List.length_take];omega
 generalize ((s.take i).drop 1).length=k at h hl
 generalize ((s.take i).drop 1).foldl V2 0=F at h ⊢
 rcases (show k=0∨k=1∨k=2∨k=3∨k=4∨k=5 by omega) with rfl|rfl|rfl|rfl|rfl|rfl<;>simp at h<;>omega
theorem ZjU {c:UInt8} (h:s[i]? = some c) (hi:1≤i):((s.take (i+1)).drop 1).foldl V2 0=V2 (((s.take i).drop 1).foldl V2 0) c:=by
 have hl:i<s.length:=by
  rcases Nat.lt_or_ge i s.length with h'|h'
  · exact h'
  · rw [List.getElem?_eq_none h'] at h;cases h
 rw [List.take_add_one,h,List.drop_append_of_le_length (by rw [List.length_take];omega),List.foldl_append]
 rfl
theorem Ux:∀ (n:Nat) {u:Tm} {l:List Tm} {r:Tm},Yj n u=some (l,r)→∀ x,x∈l→x.within u
 | 0, u, l, r, h, x, hx => by
   simp only [Yj,Option.some.injEq,Prod.mk.injEq] at h
   rw [← h.1] at hx
   simp at hx
 | n + 1, u, l, r, h, x, hx => by
   rw [Uq] at h
   cases hp:Ys u with
   | none=>rw [hp] at h;cases h
   | some p =>
     obtain ⟨a,b⟩:=p
     obtain ⟨w1,w2,_⟩:=Y3 hp
     rw [hp] at h
     simp only at h
     cases hf:Yj n b with
     | none=>rw [hf] at h;cases h
     | some q =>
       obtain ⟨l',r'⟩:=q
       rw [hf] at h
       simp only [Option.some.injEq,Prod.mk.injEq] at h
       rw [← h.1] at hx
       rcases List.mem_cons.1 hx with rfl|hx
       · exact w1
       · exact Yn (Ux n hf x hx) w2
theorem UY (t:Tm):Zf t=(.zero,2)∨((Zf t).2=0∧(Zf t).1.valid=0∧(Zf t).1.key.within t∧∃ s b u key,t= .mk 3 [115,105,103,110] s b [u,key]∧((Zf t).1.issue key).2=0∧((Zf t).1.issue key).1.cmp t=0):=by
 by_cases h:t.valid≠0∨t.isB [115,105,103,110] 2=false
 · exact .inl (Zeg _ _ _ h)
 · have h1 : t.valid = 0 := by
     by_cases e:t.valid=0
     · exact e
     · exact absurd (.inl e) h
   have h2:t.isB [115,105,103,110] 2=true:=by
    cases e:t.isB [115,105,103,110] 2 with
    | true=>rfl
    | false=>exact absurd (.inr e) h
   obtain ⟨s,b,u,key,rfl⟩:=ZcM h2
   have e:=ZeD ZO ZL VG h1
   change Zf _=_ at e
   cases hf:Yj 8 u with
   | none=>left;rw [e,hf];rfl
   | some q =>
     obtain ⟨l,r⟩:=q
     rw [hf] at e
     obtain ⟨X,hX⟩:∃ X,X=YE ZO ZL VG l r:=⟨_,rfl⟩
     obtain ⟨z1,z2,z3,z4⟩:=U3 (rn:=ZO) (rl:=ZL) (num:=VG) (t:= .mk 3 [115,105,103,110] s b [u,key]) (key:=key) (l:=l) (r:=r) (X:=X.1) (B:=X.2) (by rw [hX])
     cases hB:X.2 with
     | false=>left;rw [e,z1 hB]
     | true =>
       by_cases e1:(X.1.issue key).2=0
       · by_cases e2 : (X.1.issue key).1.cmp (.mk 3 [115, 105, 103, 110] s b [u, key]) = 0
         · right
           rw [e,z4 hB e1 e2]
           obtain ⟨v1,v2,v3,v4⟩:=Q6 e1
           refine ⟨rfl,v1,?_,s,b,u,key,rfl,e1,e2⟩
           rw [v4] at e2
           obtain ⟨l',r',k,f1,f2,f3,_,_⟩:=UA v1 (Zec e2)
           rw [hf] at f1
           cases f1
           rw [← hX] at f3
           have:X.1.key=k:=by rw [f3]
           simp only [this]
           have hm:k∈l:=by
            rw [f3] at hX
            rcases l with _|⟨a0,_|⟨a1,_|⟨a2,_|⟨a3,_|⟨a4,_|⟨a5,_|⟨a6,_|⟨a7,_|⟨a8,l⟩⟩⟩⟩⟩⟩⟩⟩⟩
            all_goals simp only [YE,Prod.mk.injEq,Cred.mk.injEq] at hX
            all_goals first
             | (rw [hX.1.2.1];simp;done)
             | (exfalso;simp at hX;done)
           exact Yn (Ux 8 hf k hm) (XH (by simp))
         · left;rw [e,z3 hB e2]
       · left;rw [e,z2 hB e1]
theorem ZeA (h:ZK s=true):s.length≤36:=by
 obtain ⟨h1,h2⟩:=UK h
 have h3:=ZaM [46] 8 (ZE s) h2
 rw [ZeU,Zb0] at h3
 simp only [List.length_cons,List.length_nil] at h3
 omega
theorem ZgJ (h:x= .zero∨x.valid=0):x.sub.length≤1000∧(∀ s,s∈x.per→s.length≤1000)∧(∀ s,s∈x.exc→s.length≤1000)∧x.per.length≤1000∧x.exc.length≤1000:=by
 rcases h with rfl|h
 · exact ⟨by simp [Cred.zero],fun s hs=>by simp [Cred.zero] at hs,fun s hs=>by simp [Cred.zero] at hs,by simp [Cred.zero],by simp [Cred.zero]⟩
 · have hok := Zb9 h
   exact ⟨by have:=ZeA hok.sub;omega,fun s hs=>by have:=ZeA (hok.per s hs);omega,fun s hs=>by have:=ZeA (hok.exc s hs);omega,by have:=hok.pl;omega,by have:=hok.el;omega⟩
noncomputable def Env.knowsG (E:Env) (l:List Fact):Env:=
 { E with
   F:=fun f=>match l.any (fun x=>Nat.beq x.f f) with|true=>none|false=>E.F f
   Z:=fun f args H=>match l.any (fun x=>Nat.beq x.f f) with
    | true => (match ZC args with
      | some a=>(match ZhU l f a with|some r=>some (r,H)|none=>none)
      | none=>none)
    | false=>E.Z f args H}
section
variable {E:Env} {P:Program}
theorem Z9 {args':List PV} {r:PV} {H':Heap} (h:CallOk E P f args' H r H') (ha:ZC args=some args'):CallOk E P f args H r H':=by
 intro g w vals hi hg hv
 obtain ⟨l1,l2⟩:=Zcn ha
 exact h g w vals hi hg ⟨by rw [l1];exact hv.1,fun i h1 h2=>V.pure (g:=g) _ _ (show V0 g.S _ _ from Zid (hv.2 i (by omega) h2) (l2 i (by omega) h1))⟩
theorem Zdm {l:List Fact} (hl:∀ x∈l,FactOk E P x) (hZ:YD E P E.Z):YD (E.knowsG l) P (E.knowsG l).Z:=by
 intro f args H p H' h
 simp only [Env.knowsG] at h
 split at h
 · split at h
   · rename_i a ha
     split at h
     · rename_i r hr
       cases h
       obtain ⟨x,hx,rfl,rfl,rfl⟩:=Zb8 hr
       exact ⟨(Z9 (hl x hx H) ha).env rfl,fun _=>rfl⟩
     · cases h
   · cases h
 · obtain ⟨a, b⟩ := hZ _ _ _ _ _ h
   exact ⟨a.env rfl,b⟩
theorem Zkq {l:List Fact} (hF:FOk E P):FOk (E.knowsG l) P:=fun f fn c h=>by
 simp only [Env.knowsG] at h
 split at h
 · cases h
 · exact hF f fn c h
theorem ZgU {E':Env} (hZ:E'.Z=E.Z) (hG:E'.G=E.G) (hI:E'.I=E.I) (hm:E'.mono=true→E.mono=true) (he:∀ f,E'.eff f=false→E.eff f=false) (h:YD E P E.Z):YD E' P E'.Z:=by
 intro f args H p H' hz
 rw [hZ] at hz
 obtain ⟨a,b⟩:=h _ _ _ _ _ hz
 exact ⟨a.env hG hI hm,fun e=>b (he f e)⟩
end
end Go.Vm
