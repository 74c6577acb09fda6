/- strings.IndexAny. -/
import Derived.Test.YtnmiodonophfbaaDoorExt16t
