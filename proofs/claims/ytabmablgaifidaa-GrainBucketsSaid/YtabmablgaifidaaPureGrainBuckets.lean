/- The plain statement of GrainBuckets: the bucket of any moment is the document's. No condition beyond numbers of 64 bits. -/
import Derived.Test.YtabmablgaifidaaR0
namespace Go.Proofs.Ytabmablgaifidaa.Pure
open Go.RowKit Go.Proofs.Ytabmablgaifidaa.PGrain Go.Proofs.YtabmablgaifidaaW.PrintWords Go.Proofs.YtabmablgaifidaaW.PrintLast

theorem GrainBuckets : gristmilllaw07_GrainBuckets.Pure := by
  intro a b ha hb
  refine Ev.rounds (g := fun k => gristmilllaw07_GrainBuckets.f k a b) ?_
  unfold gristmilllaw07_GrainBuckets.f
  refine Ev.bind awake_ev ?_
  simp only [bucket_is (K.i64_of ha) (K.i64_of hb), refBucket_is (K.i64_of ha) (K.i64_of hb), Option.bind_some, if_true]
  exact (by simpa using Ev.now true)
end Go.Proofs.Ytabmablgaifidaa.Pure
